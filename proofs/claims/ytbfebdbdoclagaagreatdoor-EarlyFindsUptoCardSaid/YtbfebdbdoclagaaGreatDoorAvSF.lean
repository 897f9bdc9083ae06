/- slices.SortFunc at elements of plain cells, by the kit's contract, as a contract on data. -/
import Derived.Test.YtbfebdbdoclagaaGreatDoorAvRX
import Derived.Shelf.SlSortCmp.NoneTotal
set_option linter.unusedVariables false
set_option linter.unusedSimpArgs false
set_option maxHeartbeats 64000000
namespace Go.Av
open Go Go.RowKit Go.Proofs Go.Shelf Go.Lib Go.Sort
section
variable {P : Program} {w : World} {S : Nat -> Prop}
def valOf (d : DV) : Value := d.val.getD (.bool false)
theorem sf_vc {d : DV} (h : d.val.isSome = true) : Cz w S (valOf d) d [] := by
 cases d <;> simp only [DV.val, Option.isSome] at h
 ·exact .int _ _
 ·exact .bool _
 ·exact .str _
 all_goals cases h
theorem sf_cv {d : DV} (h : d.val.isSome = true) {v : Value} {r : List Nat} (hc : Cz w S v d r) : v = valOf d /\ r = [] := by
 cases hc <;> simp [DV.val, valOf] at h ⊢
theorem sf_vcz : ∀ {l : List DV}, (∀ d ∈ l, d.val.isSome = true) -> CzL w S (l.map valOf) l []
 | [], _ => .nil
 | d :: l, h => .cons _ _ [] _ _ [] (sf_vc (h d (by simp))) (sf_vcz fun e he => h e (by simp [he]))
theorem sf_czv : ∀ {l : List DV}, (∀ d ∈ l, d.val.isSome = true) -> ∀ {vs : List Value} {r : List Nat}, CzL w S vs l r -> vs = l.map valOf /\ r = [] := by
 intro l
 induction l with
 | nil =>
   intro _ vs r hc
   cases hc
   exact ⟨rfl, rfl⟩
 | cons d l ih =>
   intro h vs r hc
   cases hc with
   | cons v x r vs xs rs h1 h2 =>
     obtain ⟨rfl, rfl⟩ := sf_cv (h d (by simp)) h1
     obtain ⟨rfl, rfl⟩ := ih (fun e he => h e (by simp [he])) h2
     exact ⟨rfl, rfl⟩
theorem below_grow {w' : World} (h : Below w.heap.size w w') : ∃ q os, w' = grow (w.drewN q) os := by
 refine ⟨w'.drawn - w.drawn, w'.heap.extract w.heap.size w'.heap.size, ?_⟩
 obtain ⟨⟨h1, h2, h3, h4, h5⟩, h6⟩ := h
 obtain ⟨hp, tp, dr, os, ou⟩ := w'
 simp only at h1 h2 h3 h4 h5 h6
 unfold grow World.drewN
 simp only [World.mk.injEq]
 refine ⟨?_, h2, by omega, h1, h3⟩
 apply Array.ext_getElem?
 intro k
 by_cases hk : k < w.heap.size
 ·rw [h5 k hk, Array.getElem?_append_left hk]
 ·rw [Array.getElem?_append_right (by omega), Array.getElem?_extract]
  split
  ·congr 1
   omega
  ·rw [Array.getElem?_eq_none (by omega)]
end
section
variable {α : Type} {P : Program} {ρ : Ren}
def encV (enc : α -> List DV) (x : α) : List Value := (enc x).map valOf
theorem sf_get [Inhabited α] (e : α -> List Value) (k : Nat) (hk : ∀ x, (e x).length = k) (h0 : 0 < k) : ∀ (l : List α) (j : Nat), j < l.length * k -> (l.flatMap e)[j]? = some (e l.toArray[j / k]!)[j % k]!
 | [], j, hj => by simp at hj
 | x :: l, j, hj => by
   rw [List.length_cons, Nat.succ_mul] at hj
   rw [List.flatMap_cons]
   by_cases h : j < k
   ·rw [List.getElem?_append_left (by rw [hk]; exact h), Nat.div_eq_of_lt h, Nat.mod_eq_of_lt h, List.getElem?_eq_getElem (by rw [hk]; exact h)]
    simp [hk, h]
   ·have h1 : j / k = (j - k) / k + 1 := Nat.div_eq_sub_div h0 (by omega)
    have h2 : j % k = (j - k) % k := Nat.mod_eq_sub_mod (by omega)
    rw [List.getElem?_append_right (by rw [hk]; omega), hk, sf_get e k hk h0 l (j - k) (by omega), h1, h2]
    congr 3
    simp
def sortL (cf : α -> α -> Int) (l : List α) : List α := l.mergeSort fun x y => !(ltOf cf) y x
theorem sortL_perm (cf : α -> α -> Int) (l : List α) : (sortL cf l).Perm l := List.mergeSort_perm _ _
theorem sortL_unique {cf : α -> α -> Int} (hO : SWO (ltOf cf)) {l : List α} (hT : ∀ x ∈ l, ∀ y ∈ l, ltOf cf x y = false -> ltOf cf y x = false -> x = y) {m : List α} (hp : m.Perm l) (hs : m.Pairwise fun x y => ltOf cf y x = false) : m = sortL cf l := by
 refine List.Perm.eq_of_pairwise (le := fun x y => (!ltOf cf y x) = true) ?_ ?_ ?_ (hp.trans (sortL_perm cf l).symm)
 ·intro a b ha hb h1 h2
  simp only [Bool.not_eq_true'] at h1 h2
  exact hT a (hp.mem_iff.1 ha) b ((sortL_perm cf l).mem_iff.1 hb) h2 h1
 ·exact hs.imp fun h => by simp [h]
 ·refine List.pairwise_mergeSort (le := fun x y => !ltOf cf y x) ?_ ?_ l
  ·intro a b c h1 h2
   simp only [Bool.not_eq_true'] at h1 h2 ⊢
   exact hO.ntrans c b a h2 h1
  ·intro a b
   cases h1 : ltOf cf b a with
   | false => simp
   | true =>
     cases h2 : ltOf cf a b with
     | false => simp
     | true =>
       have := hO.trans _ _ _ h1 h2
       rw [hO.irrefl] at this
       cases this
theorem sf_flat (enc : α -> List DV) : ∀ l : List α, (l.map enc).flatten.map valOf = l.flatMap (encV enc)
 | [] => rfl
 | x :: l => by
   rw [List.map_cons, List.flatten_cons, List.map_append, sf_flat enc l]
   rfl
theorem sf_vals (enc : α -> List DV) (hv : ∀ x, ∀ d ∈ enc x, d.val.isSome = true) (l : List α) : ∀ d ∈ (l.map enc).flatten, d.val.isSome = true := by
 intro d hd
 obtain ⟨e, he, hde⟩ := List.mem_flatten.1 hd
 obtain ⟨x, _, rfl⟩ := List.mem_map.1 he
 exact hv x d hde
theorem sf_len (e : α -> List Value) (k : Nat) (hk : ∀ x, (e x).length = k) : ∀ l : List α, (l.flatMap e).length = l.length * k
 | [] => by simp
 | x :: l => by
   rw [List.flatMap_cons, List.length_append, hk, sf_len e k hk l, List.length_cons, Nat.succ_mul]
   omega
theorem shape_enc {enc : α -> List DV} {k : Nat} (hk : ∀ x, (enc x).length = k) {l m : List α} (h : m.length = l.length) : Shape (.ow k (l.map enc)) (.ow k (m.map enc)) := by
 refine ⟨fun i el he => ?_, fun u => ?_, fun els he => ?_⟩
 ·simp only [DV.elAt, List.getElem?_map, Option.map_eq_some_iff] at he ⊢
  obtain ⟨x, hx, rfl⟩ := he
  have hi : i < m.length := by rw [h]; exact (List.getElem?_eq_some_iff.1 hx).1
  exact ⟨_, ⟨m[i], List.getElem?_eq_getElem hi, rfl⟩, by rw [hk, hk]⟩
 ·cases u with
  | slice a n c => cases a <;> rfl
  | pointer a => cases a <;> rfl
  | _ => rfl
 ·simp only [DV.elsOf, Option.some.injEq] at he ⊢
  subst he
  refine ⟨_, rfl, by simp [h], fun z' hz' e he => ?_⟩
  obtain ⟨y, hy, rfl⟩ := List.mem_map.1 he
  rw [hk]
  cases l with
  | nil => simp at h; subst h; cases hy
  | cons x l => rw [<- hz' (enc x) (by simp), hk]
theorem closed_val {d : DV} (h : d.val.isSome = true) : Closed d := by
 cases d <;> simp only [DV.val, Option.isSome] at h
 ·exact .int _ _
 ·exact .bool _
 ·exact .str _
 all_goals cases h
theorem closed_enc {enc : α -> List DV} {k : Nat} (hv : ∀ x, ∀ d ∈ enc x, d.val.isSome = true) (l : List α) : Closed (.ow k (l.map enc)) := by
 refine .ow _ _ fun e he d hd => ?_
 obtain ⟨x, _, rfl⟩ := List.mem_map.1 he
 exact closed_val (hv x d hd)
theorem call_cf {g : FuncId} {enc : α -> List DV} (hv : ∀ x, ∀ d ∈ enc x, d.val.isSome = true) {cf : α -> α -> Int} (hc : ∀ x y, Impl P g [.ag (enc x), .ag (enc y)] (.one (.one (.int .i64 (cf x y))))) (x y : α) (w : World) :
  Calls P g #[.agg (encV enc x).toArray, .agg (encV enc y).toArray] w fun e w' => e = .returned (.int .i64 (cf x y)) /\ ∃ q os', w' = grow (w.drewN q) os' := by
 refine ((hc x y).call w (fun _ => False) [.agg (encV enc x).toArray, .agg (encV enc y).toArray] (by simp) ?_).mono ?_
 ·exact .cons _ _ [] _ _ [] (.ag _ _ _ (by simpa [encV] using sf_vcz (hv x))) (.cons _ _ [] _ _ [] (.ag _ _ _ (by simpa [encV] using sf_vcz (hv y))) .nil)
 ·rintro e w' ⟨v, rs, rfl, hb, _, _, hcz⟩
  refine ⟨?_, below_grow hb⟩
  cases hcz with
  | one v x r h =>
    have h2 := CzS.one_inv h
    cases h2
    rfl
theorem sort_implM [Inhabited α] (L : SlLaysF0.n6 P ρ) (k : Nat) (aE : ∀ w, (isAgg (ρ.t 24)).run P w = .ok true w) (zE : ∀ w, (Go.sizeOf (ρ.t 24)).run P w = .ok k w) (h0 : 0 < k) (enc : α -> List DV) (hk : ∀ x, (enc x).length = k) (hv : ∀ x, ∀ d ∈ enc x, d.val.isSome = true)
  (cf : α -> α -> Int) (hO : SWO (ltOf cf)) (g : FuncId) (hc : ∀ x y, Impl P g [.ag (enc x), .ag (enc y)] (.one (.one (.int .i64 (cf x y))))) (eg : ∀ args w, (callFunc g args).run P w = .ok (.enter g args) w)
  (body : ∃ fn, P.funcs[ρ.f 6]? = some fn /\ fn.body.isSome = true /\ fn.name ≠ "runtime.NumGoroutine") (l : List α) (hl : l.length < 4611686018427387904) (hT : ∀ x ∈ l, ∀ y ∈ l, ltOf cf x y = false -> ltOf cf y x = false -> x = y) :
  ImplM P (ρ.f 6) (.ow k (l.map enc)) [.one (.fn g [])] (.ow k ((sortL cf l).map enc)) := by
 have hkv : ∀ x, (encV enc x).length = k := fun x => by rw [encV, List.length_map, hk]
 have h1v : ∀ x, ∀ v ∈ encV enc x, v.oneCell' = true := fun x v hv' => by
  obtain ⟨d, hd, rfl⟩ := List.mem_map.1 hv'
  have hh := hv x d hd
  cases d <;> simp only [DV.val, Option.isSome] at hh <;> first | rfl | cases hh
 have hll : (sortL cf l).length = l.length := (sortL_perm cf l).length_eq
 refine ⟨body, shape_enc hk hll, closed_enc hv _, ?_⟩
 intro w S v0 vs r0 B hS hr hnd hB hcz hargs
 have hvs : vs = [.func (.func g) #[] #[]] := by
  generalize hr1 : ([] : List Nat) = r1 at hargs
  cases hargs with
  | cons v x r vs xs rs h1 h2 =>
    cases h2
    have h3 := CzS.one_inv h1
    cases h3 with
    | fn f cs caps hl =>
      have := hl.length
      simp only [List.length_nil, Array.length_toList] at this
      have : cs = #[] := Array.eq_empty_of_size_eq_zero this
      rw [this]
 subst hvs
 obtain ⟨E, hE⟩ : ∃ E, l.map enc = E := ⟨_, rfl⟩
 have hcz2 := hcz
 rw [hE] at hcz2
 cases hcz2
 ·have hl0 : l = [] := List.map_eq_nil_iff.1 hE
  subst hl0
  have hcon := AnyF.slices_SortFunc_none (P := P) (ρ := ρ) { L with } none 0 (.func (.func g) #[] #[]) w
  refine hcon.mono ?_
  rintro e w' ⟨rfl, rfl⟩
  have hs0 : sortL cf ([] : List α) = [] := List.length_eq_zero_iff.1 (by rw [hll]; rfl)
  rw [hs0]
  exact ⟨_, [], rfl, Below.refl _ _, fun _ _ _ => rfl, by simp, List.nodup_nil, .owNil k⟩
 ·rename_i b off n c T cs rs hb hc2 hm hsz hn hz hlc
  subst hE
  have hnl : n = l.length := by rw [<- hn, List.length_map]
  subst hnl
  obtain ⟨hcells, rfl⟩ := sf_czv (sf_vals enc hv l) hlc
  rw [sf_flat] at hcells
  have hnk : l.length * k <= c * k := Nat.mul_le_mul hc2 (Nat.le_refl k)
  have hget : ∀ j, j < l.length * k -> cs[off + j]? = some ((encV enc l.toArray[j / k]!)[j % k]!) := fun j hj => by
   have h2 := sf_get (encV enc) k hkv h0 l j hj
   rw [<- hcells, List.getElem?_take_of_lt hj, List.getElem?_drop, Array.getElem?_toList] at h2
   exact h2
  have hblk : b < w.heap.size := (Array.getElem?_eq_some_iff.1 hb).1
  have hH : HoldsK (encV enc) k w b off l.toArray := fun j hj => by
   rw [size_flatK] at hj
   have hj' : j < l.length * k := by simpa using hj
   refine ⟨?_, ?_⟩
   ·simp only [World.cell?, hb]
    rw [get_flatK _ _ _ _ hj]
    exact hget j hj'
   ·simp [World.frozen?, hb]
  have hcmp : CmpLays P g #[] (encV enc) k cf b off l.toArray.size w := fun m os dk _ x y => call_cf hv hc x y _
  have hcon := AnyQ.slices_SortFunc L k aE zE (encV enc) hkv h1v cf hO g #[] b off c l.toArray w eg hcmp hH hblk (by simpa using hl)
  refine (show Calls P (ρ.f 6) _ _ _ from hcon).mono ?_
  rintro e w' ⟨rfl, d', n', os, ⟨hp1, _, hp2⟩, hs, rfl⟩
  have hd1 : d'.size = l.length := by simpa using hp1
  have hd' : d'.toList = sortL cf l := by
   refine sortL_unique hO hT ?_ ?_
   ·have e1 : d'.extract 0 l.toArray.size = d' := by rw [<- hp1]; exact Array.extract_size
    rw [e1, Array.extract_size] at hp2
    simpa using hp2
   ·rw [List.pairwise_iff_getElem]
    intro i j hi hj hij
    have hi' : i < d'.size := by simpa using hi
    have hj' : j < d'.size := by simpa using hj
    have := hs i j (Nat.zero_le _) hij (by simp; omega)
    rw [getElem!_pos d' j hj', getElem!_pos d' i hi'] at this
    simpa using this
  have hheap : ∀ b', b' ≠ b -> b' < w.heap.size -> (sortWorldK (encV enc) k w b off n' d' os).heap[b']? = w.heap[b']? := fun b' h1 h2 => by
   unfold sortWorldK grow putRowK putRow mapBlock Go.Sort.ahead
   simp only
   rw [Array.getElem?_append_left (by simpa using h2), Array.getElem?_modify, if_neg (fun e => h1 e.symm)]
  have hheapb : (sortWorldK (encV enc) k w b off n' d' os).heap[b]? = some (.cells (putCells id off (flatK (encV enc) k d') cs) T (0, 0)) := by
   unfold sortWorldK grow putRowK putRow mapBlock Go.Sort.ahead
   simp only
   rw [Array.getElem?_append_left (by simpa using hblk), Array.getElem?_modify, if_pos rfl, hb]
   rfl
  have hBb : B <= b := (hr b (by simp)).1
  refine ⟨_, [b], rfl, ⟨⟨rfl, rfl, rfl, ?_, fun i hi => hheap i (by omega) (by omega)⟩, Nat.le_add_right _ _⟩, fun b' h1 h2 => hheap b' (by simpa using h2) h1, ?_, by simp, ?_⟩
  ·unfold sortWorldK grow putRowK putRow mapBlock Go.Sort.ahead
   simp
  ·intro b' hb'
   have : b' = b := by simpa using hb'
   subst this
   refine ⟨.inl (by simp), ?_⟩
   unfold sortWorldK grow putRowK putRow mapBlock Go.Sort.ahead
   simp
   omega
  ·have hps : (putCells id off (flatK (encV enc) k d') cs).size = cs.size := by simp [putCells]
   refine .ow b off l.length c k _ T _ [] hheapb (by rw [List.length_map, hll]) hc2 hm (by rw [hps]; exact hsz) (fun e he => ?_) ?_
   ·obtain ⟨x, _, rfl⟩ := List.mem_map.1 he
    exact hk x
   ·have hfin : ((putCells id off (flatK (encV enc) k d') cs).toList.drop off).take (l.length * k) = ((sortL cf l).map enc).flatten.map valOf := by
     rw [sf_flat, <- hd']
     apply List.ext_getElem?
     intro j
     by_cases hj : j < l.length * k
     ·have h2 := sf_get (encV enc) k hkv h0 d'.toList j (by simpa [hd1] using hj)
      rw [h2, List.getElem?_take_of_lt hj, List.getElem?_drop, Array.getElem?_toList]
      have hoj : off + j < cs.size := by omega
      have hjd : j < d'.size * k := by rw [hd1]; exact hj
      unfold putCells
      rw [Array.getElem?_mapIdx, Array.getElem?_eq_getElem hoj]
      simp only [Option.map_some, size_flatK]
      rw [if_pos (by omega)]
      simp only [Nat.add_sub_cancel_left, id]
      rw [get_flatK _ _ _ _ hjd]
     ·rw [List.getElem?_eq_none (by rw [List.length_take]; omega), List.getElem?_eq_none (by rw [sf_len _ k hkv]; simp only [Array.length_toList, hd1]; omega)]
    rw [hfin]
    exact sf_vcz (sf_vals enc hv _)
end
end Go.Av

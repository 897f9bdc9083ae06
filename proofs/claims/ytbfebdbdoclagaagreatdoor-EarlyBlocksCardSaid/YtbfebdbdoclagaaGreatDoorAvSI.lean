/- slices.Sort at int, by the kit's contract, as a contract on data. -/
import Derived.Test.YtbfebdbdoclagaaGreatDoorAvSF
import Derived.Shelf.Sort.Plain
import Derived.Shelf.Slices.In.SortNone
set_option linter.unusedVariables false
set_option linter.unusedSimpArgs false
set_option maxHeartbeats 64000000
namespace Go.Av
open Go Go.RowKit Go.Proofs Go.Shelf Go.Lib Go.Sort
def encZ (x : Int) : List DV := [.int .i64 x]
theorem encZ_val : ∀ x, ∀ d ∈ encZ x, d.val.isSome = true := fun x d hd => by
 rw [List.mem_singleton.1 hd]
 rfl
section
variable {P : Program} {ρ : Ren}
theorem one_get (l : List Int) (j : Nat) (hj : j < l.length) : (l.flatMap (encV encZ))[j]? = some (Value.int .i64 l.toArray[j]!) := by
 have h := sf_get (encV encZ) 1 (fun _ => rfl) (by omega) l j (by omega)
 rw [Nat.div_one, Nat.mod_one] at h
 rw [h]
 rfl
theorem sortI_implM (L : Lays.n189 P ρ) (body : ∃ fn, P.funcs[ρ.f 189]? = some fn /\ fn.body.isSome = true /\ fn.name ≠ "runtime.NumGoroutine") (l : List Int) (hl : l.length < 4611686018427387904) :
  ImplM P (ρ.f 189) (.ow 1 (l.map encZ)) [] (.ow 1 ((l.mergeSort fun x y => decide (x <= y)).map encZ)) := by
 obtain ⟨m, hmm⟩ : ∃ m, (l.mergeSort fun x y => decide (x <= y)) = m := ⟨_, rfl⟩
 have hll : m.length = l.length := hmm ▸ (List.mergeSort_perm l _).length_eq
 rw [hmm]
 refine ⟨body, shape_enc (enc := encZ) (k := 1) (fun _ => rfl) hll, closed_enc encZ_val _, ?_⟩
 intro w S v0 vs r0 B hS hr hnd hB hcz hargs
 have hvs : vs = [] := by
  cases hargs
  rfl
 subst hvs
 obtain ⟨E, hE⟩ : ∃ E, l.map encZ = E := ⟨_, rfl⟩
 have hcz2 := hcz
 rw [hE] at hcz2
 cases hcz2
 ·have hl0 : l = [] := List.map_eq_nil_iff.1 hE
  subst hl0
  have hm0 : m = [] := List.length_eq_zero_iff.1 (by rw [hll]; rfl)
  have hcon := Any.slices_Sort_int_none L none 0 w
  refine hcon.mono ?_
  rintro e w' ⟨rfl, rfl⟩
  rw [hm0]
  exact ⟨_, [], rfl, Below.refl _ _, fun _ _ _ => rfl, by simp, List.nodup_nil, .owNil 1⟩
 ·rename_i b off n c T cs rs hb hc2 hm hsz hn hz hlc
  subst hE
  have hnl : n = l.length := by rw [<- hn, List.length_map]
  subst hnl
  obtain ⟨hcells, rfl⟩ := sf_czv (sf_vals encZ encZ_val l) hlc
  rw [sf_flat] at hcells
  have hget : ∀ j, j < l.length -> cs[off + j]? = some (Value.int .i64 l.toArray[j]!) := fun j hj => by
   have h2 := one_get l j hj
   rw [<- hcells, List.getElem?_take_of_lt (by omega), List.getElem?_drop, Array.getElem?_toList] at h2
   exact h2
  have hblk : b < w.heap.size := (Array.getElem?_eq_some_iff.1 hb).1
  have hH : Holds (Value.int .i64) w b off l.toArray := fun j hj => by
   have hj' : j < l.length := by simpa using hj
   refine ⟨?_, ?_⟩
   ·simp only [World.cell?, hb]
    exact hget j hj'
   ·simp [World.frozen?, hb]
  have hcon := Any.slices_Sort_int L b off c l w hH hblk hl
  rw [hmm] at hcon
  refine (show Calls P (ρ.f 189) _ _ _ from hcon).mono ?_
  rintro e w' ⟨rfl, n', os, rfl⟩
  have hheap : ∀ b', b' ≠ b -> b' < w.heap.size -> (grow (putRow (Value.int .i64) (Go.Sort.ahead w n') b off m.toArray) os).heap[b']? = w.heap[b']? := fun b' h1 h2 => by
   unfold grow putRow mapBlock Go.Sort.ahead
   simp only
   rw [Array.getElem?_append_left (by simpa using h2), Array.getElem?_modify, if_neg (fun e => h1 e.symm)]
  have hheapb : (grow (putRow (Value.int .i64) (Go.Sort.ahead w n') b off m.toArray) os).heap[b]? = some (.cells (putCells (Value.int .i64) off m.toArray cs) T (0, 0)) := by
   unfold grow putRow mapBlock Go.Sort.ahead
   simp only
   rw [Array.getElem?_append_left (by simpa using hblk), Array.getElem?_modify, if_pos rfl, hb]
   rfl
  have hBb : B <= b := (hr b (by simp)).1
  refine ⟨_, [b], rfl, ⟨⟨rfl, rfl, rfl, ?_, fun i hi => hheap i (by omega) (by omega)⟩, Nat.le_add_right _ _⟩, fun b' h1 h2 => hheap b' (by simpa using h2) h1, ?_, by simp, ?_⟩
  ·unfold grow putRow mapBlock Go.Sort.ahead
   simp
  ·intro b' hb'
   have : b' = b := by simpa using hb'
   subst this
   refine ⟨.inl (by simp), ?_⟩
   unfold grow putRow mapBlock Go.Sort.ahead
   simp
   omega
  ·have hps : (putCells (Value.int .i64) off m.toArray cs).size = cs.size := by simp [putCells]
   refine .ow b off l.length c 1 _ T _ [] hheapb (by rw [List.length_map, hll]) hc2 hm (by rw [hps]; exact hsz) (fun e he => ?_) ?_
   ·obtain ⟨x, _, rfl⟩ := List.mem_map.1 he
    rfl
   ·have hfin : ((putCells (Value.int .i64) off m.toArray cs).toList.drop off).take (l.length * 1) = (m.map encZ).flatten.map valOf := by
     rw [sf_flat]
     apply List.ext_getElem?
     intro j
     by_cases hj : j < l.length
     ·have hjm : j < m.length := by omega
      rw [one_get m j hjm, List.getElem?_take_of_lt (by omega), List.getElem?_drop, Array.getElem?_toList]
      have hoj : off + j < cs.size := by omega
      unfold putCells
      rw [Array.getElem?_mapIdx, Array.getElem?_eq_getElem hoj]
      simp only [Option.map_some, List.size_toArray]
      rw [if_pos (by omega)]
      simp only [Nat.add_sub_cancel_left]
     ·rw [List.getElem?_eq_none (by rw [List.length_take]; omega), List.getElem?_eq_none (by rw [sf_len _ 1 (fun _ => rfl)]; omega)]
    rw [hfin]
    exact sf_vcz (sf_vals encZ encZ_val _)
end
end Go.Av

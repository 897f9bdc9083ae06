/- slices.Delete at structs of three cells. -/
import Derived.Test.YtpnpnldabhmojaaF8
import Derived.Test.YtpnpnldabhmojaaProg
import Derived.WalkKit
import Derived.Deep.RegionLaw
import Derived.Lib.SliceRun
set_option linter.unusedVariables false
set_option linter.unusedSimpArgs false
namespace Go.Av
open Go Go.RowKit Go.Proofs

theorem heap_setCells (b : Nat) (T : TypeId) (f : Nat × Nat) : ∀ (vs : List Value) (o : Nat) (w : World) (cs : Array Value), w.heap[b]? = some (.cells cs T f) → o + vs.length ≤ cs.size →
    (w.setCells b o vs).heap[b]? = some (.cells (splice cs.toList o vs).toArray T f)
  | [], o, w, cs, h, _ => by simp [World.setCells, splice, h]
  | v :: vs, o, w, cs, h, hs => by
    simp only [List.length_cons] at hs
    have h1 : (w.setCell ⟨b, o, none⟩ v).heap[b]? = some (.cells (cs.setIfInBounds o v) T f) := by
      simp [World.setCell, Array.getElem?_modify, h]
    have h2 := heap_setCells b T f vs (o + 1) _ _ h1 (by simp; omega)
    rw [World.setCells, h2]
    have : splice (cs.setIfInBounds o v).toList (o + 1) vs = splice cs.toList o (v :: vs) := by
      unfold splice
      rw [Array.toList_setIfInBounds]
      have hlt : o < cs.toList.length := by simp; omega
      have e1 : (cs.toList.set o v).take (o + 1) = cs.toList.take o ++ [v] := by
        rw [List.take_set, List.take_succ_eq_append_getElem hlt, List.set_append_right _ _ (by simp; omega)]
        have : min o cs.size = o := by simp at hlt; omega
        simp [this]
      rw [e1, List.drop_set_of_lt (by omega), List.append_assoc, List.append_assoc, List.length_cons]
      simp only [List.cons_append, List.nil_append]
      have : o + 1 + vs.length = o + (vs.length + 1) := by omega
      rw [this]
      simp
    rw [this]

theorem run_clear_cells {P : Program} (w : World) (t e ty : TypeId) (z : Value) (ht : P.underlying t = some (.slice e)) (hv : ∀ w, (zeroValue e).run P w = .ok z w) (h1 : ∀ u ∈ z.cells, u.oneCell' = true) (b o n c : Nat) (hn : 0 < n) (hz : 0 < z.cells.size)
    (hc : ∀ j, j < n * z.cells.size → (w.cell? ⟨b, o + j, none⟩).isSome = true) (hf : ∀ j, j < n * z.cells.size → w.frozen? ⟨b, o + j, none⟩ = false) :
    (Builtin.clear_ #[t] ty #[.slice (some ⟨b, o, none⟩) n c]).run P w = .ok (.tuple #[]) (w.setCells b o (Builtin.zeroCells z.cells n).toList) := by
  have hst := run_storeCells_cells (P := P) b o (Builtin.zeroCells z.cells n).toList 0 w (by simpa [Builtin.zeroCells] using hc) (by simpa [Builtin.zeroCells] using hf) (by
    intro v hv'
    simp only [Builtin.zeroCells, Array.toList_map, List.mem_map] at hv'
    obtain ⟨i, _, rfl⟩ := hv'
    have hi : i % z.cells.size < z.cells.size := Nat.mod_lt _ hz
    rw [getElem!_pos z.cells (i % z.cells.size) hi]
    exact h1 _ (Array.getElem_mem hi))
  simp only [Nat.add_zero] at hst
  obtain ⟨m, rfl⟩ : ∃ m, n = m + 1 := ⟨n - 1, by omega⟩
  simp [Builtin.clear_, run_underlying ht, hv, hst]


theorem heap_setCells_ne (b : Nat) : ∀ (vs : List Value) (o : Nat) (w : World) (k : Nat), k ≠ b → (w.setCells b o vs).heap[k]? = w.heap[k]?
  | [], _, _, _, _ => rfl
  | v :: vs, o, w, k, h => by
    rw [World.setCells, heap_setCells_ne b vs _ _ k h]
    exact Below.heap_setCell w _ v k h

theorem below_setCells (b B : Nat) (hb : B ≤ b) : ∀ (vs : List Value) (o : Nat) (w w0 : World), Below B w0 w → Below B w0 (w.setCells b o vs)
  | [], _, _, _, h => h
  | v :: vs, o, w, w0, h => below_setCells b B hb vs _ _ _ (h.setCell hb v)

theorem info32 : (Try.prog.info? 32).map (fun i => (i.zero, i.size, i.bytes)) = some (some (.agg #[.int .i64 0, .int .i64 0, .int .i64 0]), 3, 24) := by kernel_rfl

theorem zero32 (w : World) : (zeroValue 32).run Try.prog w = .ok (.agg #[.int .i64 0, .int .i64 0, .int .i64 0]) w := by
  obtain ⟨i, hi, hz, h1, h2⟩ := info_parts info32
  simp [zeroValue, typeInfo, hi, hz]

def zs3 (k : Nat) : List Value := (Builtin.zeroCells (Value.cells (.agg #[.int .i64 0, .int .i64 0, .int .i64 0])) k).toList

theorem zs3_len (k : Nat) : (zs3 k).length = k * 3 := by simp [zs3, Builtin.zeroCells, Value.cells]

set_option maxHeartbeats 4000000 in
set_option maxRecDepth 1000000 in
theorem f34raw (blk off n cap i j : Nat) (cs : Array Value) (T : TypeId) (w : World) (hb : w.heap[blk]? = some (.cells cs T (0, 0))) (hn : n ≤ cap) (hm : cap ≤ 9223372036854775807) (hsz : off + cap * 3 ≤ cs.size)
    (hone : ∀ v ∈ (cs.toList.drop off).take (n * 3), v.oneCell' = true) (hlt : i < j) (hj : j ≤ n) :
    Calls Try.prog 34 #[.slice (some ⟨blk, off, none⟩) n cap, .int .i64 i, .int .i64 j] w fun e w' => e = .returned (.slice (some ⟨blk, off, none⟩) (i + (n - j)) cap) ∧
      w' = (w.drew.setCells blk (off + i * 3) ((cs.toList.drop (off + j * 3)).take ((n - j) * 3))).setCells blk (off + (i + (n - j)) * 3) (zs3 (n - (i + (n - j)))) := by
  obtain ⟨i0, hi0, hz0, hz1, hz2⟩ := info_parts info32
  have hcell : ∀ (w' : World) (cs' : Array Value), w'.heap[blk]? = some (.cells cs' T (0, 0)) → ∀ k, w'.cell? ⟨blk, k, none⟩ = cs'.toList[k]? := fun w' cs' h k => by rw [cell_of_row w' blk k cs' T (0, 0) h]; simp
  have hfrz : ∀ (w' : World) (cs' : Array Value), w'.heap[blk]? = some (.cells cs' T (0, 0)) → ∀ k, w'.frozen? ⟨blk, k, none⟩ = false := fun w' cs' h k => by simp [World.frozen?, h]
  obtain ⟨news, hnews⟩ : ∃ news, news = (cs.toList.drop (off + j * 3)).take ((n - j) * 3) := ⟨_, rfl⟩
  have hlen : news.length = (n - j) * 3 := by rw [hnews]; simp; omega
  have hsubset : ∀ u ∈ news, u.oneCell' = true := by
    intro u hu
    refine hone u ?_
    rw [hnews] at hu
    have : (cs.toList.drop (off + j * 3)).take ((n - j) * 3) = (((cs.toList.drop off).take (n * 3)).drop (j * 3)).take ((n - j) * 3) := by
      rw [seg (by omega), List.drop_drop]
    rw [this] at hu
    exact List.mem_of_mem_drop (List.mem_of_mem_take hu)
  obtain ⟨A, hA, hsrc⟩ : ∃ A : Addr, (if cap = j then some (⟨blk, off, none⟩ : Addr) else some ⟨blk, off + j * 3, none⟩) = some A ∧ Hid (∀ t u, news[t]? = some u → w.drew.cell? (A.add t) = some u) := by
    by_cases h : cap = j
    · refine ⟨⟨blk, off, none⟩, by simp [h], fun t u hu => ?_⟩
      have h0 : news.length = 0 := by rw [hlen]; omega
      rw [List.length_eq_zero_iff.1 h0] at hu
      simp at hu
    · refine ⟨⟨blk, off + j * 3, none⟩, by simp [h], fun t u hu => ?_⟩
      have ht : t < (n - j) * 3 := by
        have := (List.getElem?_eq_some_iff.1 hu).1
        rwa [hlen] at this
      rw [add_mk, hcell w.drew cs hb]
      rw [hnews, List.getElem?_take, if_pos ht, List.getElem?_drop] at hu
      exact hu
  have s1 : Hid (news.length = (n - j) * 3) := hlen
  have s2 : Hid (∀ u ∈ news, u.oneCell' = true) := hsubset
  have s3 : Hid (∀ t, t < news.length → (w.drew.cell? ⟨blk, off + i * 3 + t, none⟩).isSome = true ∧ w.drew.frozen? ⟨blk, off + i * 3 + t, none⟩ = false) := by
    intro t ht
    rw [hlen] at ht
    refine ⟨?_, hfrz w.drew cs hb _⟩
    rw [hcell w.drew cs hb, List.getElem?_eq_getElem (by simp; omega)]
    rfl
  obtain ⟨W1, hW1⟩ : ∃ W1, W1 = w.drew.setCells blk (off + i * 3) news := ⟨_, rfl⟩
  have hb1 : W1.heap[blk]? = some (.cells (splice cs.toList (off + i * 3) news).toArray T (0, 0)) := by
    rw [hW1]; exact heap_setCells blk T (0, 0) news _ w.drew cs hb (by rw [hlen]; omega)
  have hsz1 : (splice cs.toList (off + i * 3) news).length = cs.size := by rw [splice_length _ _ _ (by rw [hlen]; simp; omega)]; simp
  have hcl : ∀ ty, (Builtin.clear_ #[22] ty #[.slice (some ⟨blk, off + (i + (n - j)) * 3, none⟩) (n - (i + (n - j))) (cap - (i + (n - j)))]).run Try.prog W1 = .ok (.tuple #[]) (W1.setCells blk (off + (i + (n - j)) * 3) (zs3 (n - (i + (n - j))))) := by
    intro ty
    refine run_clear_cells W1 22 32 ty (.agg #[.int .i64 0, .int .i64 0, .int .i64 0]) Try.underlying22 zero32 (by simp [Value.cells, Value.oneCell']) blk _ _ _ (by omega) (by simp [Value.cells]) (fun t ht => ?_) (fun t ht => hfrz W1 _ hb1 _)
    have ht' : t < (n - (i + (n - j))) * 3 := ht
    rw [hcell W1 _ hb1, List.getElem?_eq_getElem (by simp only [List.toList_toArray, hsz1]; omega)]
    rfl
  have hW : Hid (W1 = w.drew.setCells blk (off + i * 3) news) := hW1
  have hic : i ≤ cap := by omega
  have hjc : j ≤ cap := by omega
  rw [← hnews]
  clear hW1 hb1 hsz1 hb hnews hlen hsubset hone hcell hfrz
  go_enter Try.func34, Try.ntmps34
  go_wp2_with fail
  go_region_law (refine step_append_room rfl (.tmp 22) (.tmp 25) 22 rfl 32 i0 3 Try.underlying22 hi0 hz1 blk off i cap (by simp [Act.eval, Act.put]) A (n - j) (cap - j) news (by simp [Act.eval, Act.put]) s1.out hsrc.out s2.out (by omega) s3.out ?_)
  rw [← hW.out]
  go_wp2
  go_ret
  exact ⟨rfl, by rw [hW.out]⟩

set_option maxHeartbeats 4000000 in
set_option maxRecDepth 1000000 in
theorem f34same (A : Option Addr) (n cap i : Nat) (w : World) (hn : n ≤ cap) (hi : i ≤ n) :
    Calls Try.prog 34 #[.slice A n cap, .int .i64 i, .int .i64 i] w fun e w' => e = .returned (.slice A n cap) ∧ w' = w := by
  go_enter Try.func34, Try.ntmps34
  go_wp2
  all_goals (go_ret; exact ⟨rfl, rfl⟩)

/-- slices.Delete takes its slice over. -/
theorem f34 (els : List (List DV)) (i j : Nat) (hz : ∀ e ∈ els, e.length = 3) (hij : i ≤ j) (hj : j ≤ els.length) :
    ImplC Try.prog 34 (.ow 3 els) [.one (.int .i64 i), .one (.int .i64 j)] (.ow 3 (els.take i ++ els.drop j)) := by
  refine ⟨⟨_, Try.func34, by kernel_rfl, by decide⟩, ?_⟩
  intro w S v0 vs r0 B hS hr0 hnd hB hcz hargs
  have hlen := hargs.length
  obtain ⟨v1, hv1, hc1⟩ := hargs.get0 rfl 0 _ rfl
  obtain ⟨v2, hv2, hc2⟩ := hargs.get0 rfl 1 _ rfl
  have e1 := (CzS.one_inv hc1).int_inv
  have e2 := (CzS.one_inv hc2).int_inv
  have hvs : vs = [v1, v2] := by
    match vs, hlen, hv1, hv2 with
    | [a, b], _, h1, h2 => simp at h1 h2; rw [h1, h2]
  subst hvs
  subst e1
  subst e2
  by_cases heq : i = j
  · subst heq
    obtain ⟨A, c, hv, hc, _⟩ := hcz.slice_len rfl
    subst hv
    refine (f34same A els.length c i w hc hj).mono ?_
    rintro e w' ⟨rfl, rfl⟩
    refine ⟨_, r0, rfl, Below.refl _ _, fun _ _ _ => rfl, fun b hb => ⟨.inl hb, (hr0 b hb).2.1⟩, hnd, ?_⟩
    rw [List.take_append_drop]
    exact hcz
  · cases hcz with
    | owNil => simp at hj; omega
    | ow b off n c z els T cs rs hb hn hc hm hsz hzz hl =>
      have hlt : i < j := by omega
      have hz3 : 3 = 3 := rfl
      subst hn
      have hone : ∀ v ∈ (cs.toList.drop off).take (els.length * 3), v.oneCell' = true := hl.allOne
      refine (f34raw b off els.length c i j cs T w hb hc (by unfold maxLen at hm; omega) hsz hone hlt hj).mono ?_
      rintro e w' ⟨rfl, hw⟩
      have hcsl : cs.toList.length = cs.size := by simp
      -- the cells behind the append, and behind the clearing
      have hnl : ((cs.toList.drop (off + j * 3)).take ((els.length - j) * 3)).length = (els.length - j) * 3 := by simp; omega
      have h1 := heap_setCells b T (0, 0) _ (off + i * 3) w.drew cs hb (by rw [hnl]; omega)
      have hsl : (splice cs.toList (off + i * 3) ((cs.toList.drop (off + j * 3)).take ((els.length - j) * 3))).length = cs.size := by rw [splice_length _ _ _ (by rw [hnl, hcsl]; omega), hcsl]
      have h2 := heap_setCells b T (0, 0) (zs3 (els.length - (i + (els.length - j)))) (off + (i + (els.length - j)) * 3) _ _ h1 (by rw [zs3_len, List.size_toArray, hsl]; omega)
      rw [← hw] at h2
      -- what is owned
      obtain ⟨r1, r2, er1, g1, g2⟩ := CzL.split (i * 3) hl
      obtain ⟨r5, r6, er2, _, g6⟩ := CzL.split ((j - i) * 3) g2
      have hij3 : i * 3 + (j - i) * 3 = j * 3 := by omega
      rw [List.drop_drop, List.drop_drop, hij3, flatten_drop j hzz] at g6
      rw [flatten_take i hzz] at g1
      have g := g1.append g6
      rw [← List.flatten_append] at g
      have hfin : ((splice (splice cs.toList (off + i * 3) ((cs.toList.drop (off + j * 3)).take ((els.length - j) * 3))) (off + (i + (els.length - j)) * 3) (zs3 (els.length - (i + (els.length - j))))).drop off).take ((i + (els.length - j)) * 3) =
          ((cs.toList.drop off).take (els.length * 3)).take (i * 3) ++ ((cs.toList.drop off).take (els.length * 3)).drop (j * 3) := by
        have e1 : ∀ (l zs : List Value) (k : Nat), off + k ≤ l.length → ((splice l (off + k) zs).drop off).take k = (l.drop off).take k := by
          intro l zs k hk
          have hz1 : (splice l (off + k) zs).take (off + k) = l.take (off + k) := by
            unfold splice
            rw [List.append_assoc, List.take_append_of_le_length (by simp; omega), List.take_take, Nat.min_self]
          have := congrArg (List.drop off) hz1
          rw [List.drop_take, List.drop_take, Nat.add_sub_cancel_left] at this
          exact this
        rw [e1 _ _ _ (by rw [hsl]; omega)]
        have e2 : (i + (els.length - j)) * 3 = i * 3 + ((cs.toList.drop (off + j * 3)).take ((els.length - j) * 3)).length := by rw [hnl]; omega
        rw [e2, splice_seg _ _ _ _ (by rw [hnl, hcsl]; omega), List.take_take, List.drop_take, List.drop_drop]
        congr 2
        · omega
        · omega
      have hsub : ∀ k ∈ b :: (r1 ++ r6), k ∈ b :: rs := by
        intro k hk
        rw [er1, er2]
        simp only [List.mem_cons, List.mem_append] at hk ⊢
        rcases hk with hk | hk | hk
        · exact .inl hk
        · exact .inr (.inl hk)
        · exact .inr (.inr (.inr hk))
      have hbr : b ∉ rs := (List.nodup_cons.1 hnd).1
      have hkeep : ∀ k, k ≠ b → w'.heap[k]? = w.heap[k]? := by
        intro k hk
        rw [hw, heap_setCells_ne _ _ _ _ _ hk, heap_setCells_ne _ _ _ _ _ hk]
        rfl
      have hBb := (hr0 b (by simp)).1
      have hbel : Below B w w' := by
        rw [hw]
        exact below_setCells b B hBb _ _ _ _ (below_setCells b B hBb _ _ _ _ (Below.refl _ _).drew)
      refine ⟨_, b :: (r1 ++ r6), rfl, hbel, fun k _ hk => hkeep k (fun e => hk (by simp [e])), fun k hk => ⟨.inl (hsub k hk), ?_⟩, ?_, ?_⟩
      · have := (hr0 k (hsub k hk)).2.1
        have := hbel.size
        omega
      · rw [er1, er2] at hnd
        simp only [List.nodup_cons, List.nodup_append, List.mem_append] at hnd ⊢
        refine ⟨fun h => hnd.1 (h.imp id fun h => .inr h), hnd.2.1, hnd.2.2.1.2.1, fun a ha c hc => hnd.2.2.2 a ha c (.inr hc)⟩
      · refine .ow b off _ c 3 _ T _ (r1 ++ r6) h2 (by simp; omega) (by omega) hm (by rw [List.size_toArray, splice_length _ _ _ (by rw [zs3_len, List.toList_toArray, hsl]; omega), List.toList_toArray, hsl]; exact hsz) ?_ ?_
        · intro e he
          rcases List.mem_append.1 he with he | he
          · exact hzz e (List.mem_of_mem_take he)
          · exact hzz e (List.mem_of_mem_drop he)
        · rw [List.toList_toArray, List.toList_toArray, hfin]
          refine g.keep (fun k hk => ⟨hk, hkeep k (fun e => ?_)⟩) (fun k hk => hkeep k (fun e => ?_))
          · subst e; exact (hr0 k (by simp)).2.2 hk
          · subst e
            refine hbr ?_
            rw [er1, er2]
            simp only [List.mem_append] at hk ⊢
            exact hk.imp id fun h => .inr h
end Go.Av

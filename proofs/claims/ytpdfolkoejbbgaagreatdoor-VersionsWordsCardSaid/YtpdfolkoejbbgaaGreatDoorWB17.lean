/- Part of a proof. -/
import Derived.Test.YtpdfolkoejbbgaaGreatDoorWB00
import Derived.Test.YtpdfolkoejbbgaaGreatDoorWB16
set_option linter.unusedVariables false
set_option linter.unusedSimpArgs false
set_option maxHeartbeats 64000000
set_option maxRecDepth 8000
namespace Go.Av
open Go Go.RowKit Go.Proofs
theorem f74 (l : List Inter) (hl : l.length <= 1000000) : Impl Tryz.prog 74 [.one (.sl (l.map encI))] (.one (.one (.ow 3 (l.map encI)))) := by
 refine impl_w Tryz.func74 z74 Tryz.ntmps74 (by simp) ?_
 simp only [slotsOf]
 conv => arg 2; reduce
 repeat' first | refine St.go ?_ | ((with_reducible refine cn ?_ ?_) <;> intro h <;> (try simp at h) <;> try omega) | (refine Ru.go ?_; intro K hK; simp [go_sem, encI]; (first | apply hK | refine ⟨by first | omega | (simp [z_f, z_g, encI, maxLen, DV.flat]; first | done | omega), ?_⟩ | refine ⟨hK _ ?_, fun h => ?_⟩ | refine ⟨?_, ?_⟩); all_goals ((try apply hK); clear hK K))
 all_goals simp_all [go_sem]
theorem words_keep {g : Glob} {E : Int -> List Int} {n : Int} : ∀ (fu i : Nat) (ws R : List Wd), ws.length <= 3000 -> (∀ p ∈ ws, (p.1.length : Int) <= n) -> wordsL g E n fu i ws = some R -> R.length <= 3000 /\ ∀ p ∈ R, (p.1.length : Int) <= n
 | 0, i, ws, R, h, hn, he => by
   simp only [wordsL, Option.some.injEq] at he
   subst he
   exact ⟨h, hn⟩
 | fu + 1, i, ws, R, h, hn, he => by
   simp only [wordsL] at he
   split at he
   ·simp only [Option.some.injEq] at he
    subst he
    exact ⟨h, hn⟩
   ·rename_i w hw
    have hwn := hn w (List.mem_of_getElem? hw)
    split at he
    ·exact words_keep fu (i + 1) ws R h hn he
    ·rename_i hne
     split at he
     ·cases he
     ·rename_i hlen
      refine words_keep fu (i + 1) _ R (by omega) ?_ he
      intro p hp
      rcases List.mem_append.1 hp with hp | hp
      ·exact hn p hp
      ·unfold nextW at hp
       obtain ⟨k, hk, rfl⟩ := List.mem_map.1 hp
       split
       ·simp only [List.length_append, List.length_singleton]
        omega
       ·exact hwn
theorem resW_cases (V : Bool) (n : Int) (R : Option (List Wd)) : (∃ c, resW V n R = (.nil, c) /\ c ≠ 0) \/ ∃ ws, R = some ws /\ resW V n R = (.ow 1 (ws.map encWd), 0) := by
 unfold resW
 split
 ·split
  ·exact .inl ⟨2, rfl, by decide⟩
  ·cases R with
   | none => exact .inl ⟨6, rfl, by decide⟩
   | some ws => exact .inr ⟨ws, rfl, rfl⟩
 ·exact .inl ⟨1, rfl, by decide⟩
theorem compareV_valid {a b : Glob} (h : (compareV a b).2 = 0) : valid29 a = true /\ valid29 b = true := by
 unfold compareV at h
 split at h
 ·assumption
 ·simp at h
theorem f8 (h109 : H109) (a b : Glob) (ha : GlobA a) (hb : GlobA b) : Impl Tryz.prog 8 [.ag (encG a), .ag (encG b)] (.one (.one (.bool true))) := by
 have k16 := f16 h109
 have k17a := f17 a ha.1 (fun d hd => (ha.2 d hd).2)
 have k17b := f17 b hb.1 (fun d hd => (hb.2 d hd).2)
 cases fa : few31 a with
 | false =>
   rw [fa] at k17a
   simp only [encG] at k17a k17b
   refine impl_w Tryz.func8 z8 Tryz.ntmps8 (by simp) ?_
   simp only [slotsOf]
   conv => arg 2; reduce
   repeat' first | refine St.go ?_ | ((with_reducible refine cn ?_ ?_) <;> intro h <;> (try simp at h) <;> try omega) | (refine Ru.go ?_; intro K hK; simp [go_sem, encG]; (try simp (disch := omega) only [wx, z_i]); (first | apply hK | ((try refine .inl ?_); refine ⟨_, by (try intro hc); (repeat' first | exact k16 | exact k17a | exact hc | refine And.intro ?_ ?_ | simp [go_sem, encG]); first | done | omega, ?_⟩; first | apply hK | (refine ⟨by simp [go_sem, encG], ?_⟩; first | apply hK | refine ⟨by simp [go_sem, encG], hK _ _ ?_⟩)) | refine ⟨.one (.one (.bool false)), by simp [go_sem, encG], hK _ _ ?_⟩ | refine ⟨ob, ?_⟩ | refine ⟨hK _ ?_, fun h => ?_⟩ | refine ⟨?_, ?_⟩); all_goals ((try apply hK); clear hK K))
   simp [go_sem]
 | true =>
   rw [fa] at k17a
   cases fb : few31 b with
   | false =>
     rw [fb] at k17b
     simp only [encG] at k17a k17b
     refine impl_w Tryz.func8 z8 Tryz.ntmps8 (by simp) ?_
     simp only [slotsOf]
     conv => arg 2; reduce
     repeat' first | refine St.go ?_ | ((with_reducible refine cn ?_ ?_) <;> intro h <;> (try simp at h) <;> try omega) | (refine Ru.go ?_; intro K hK; simp [go_sem, encG]; (try simp (disch := omega) only [wx, z_i]); (first | apply hK | ((try refine .inl ?_); refine ⟨_, by (try intro hc); (repeat' first | exact k16 | exact k17a | exact k17b | exact hc | refine And.intro ?_ ?_ | simp [go_sem, encG]); first | done | omega, ?_⟩; first | apply hK | (refine ⟨by simp [go_sem, encG], ?_⟩; first | apply hK | refine ⟨by simp [go_sem, encG], hK _ _ ?_⟩)) | refine ⟨.one (.one (.bool false)), by simp [go_sem, encG], hK _ _ ?_⟩ | refine ⟨ob, ?_⟩ | refine ⟨hK _ ?_, fun h => ?_⟩ | refine ⟨?_, ?_⟩); all_goals ((try apply hK); clear hK K))
     simp [go_sem]
   | true =>
     rw [fb] at k17b
     have sa := few31_small (g := a) fa fun d hd => (ha.2 d hd).1
     have sb := few31_small (g := b) fb fun d hd => (hb.2 d hd).1
     have k18 := f18 h109 a b sa sb
     have k30 := f30g a 5 (valid29 a) (sortedE a.edges) (f29 h109 a sa) (fun s => f28 a s (by have := sa.edges; omega)) f74
      (fun s k hk => by
       obtain ⟨x, hx, h0, _⟩ := mem_sortedE.1 hk
       exact ⟨h0, (List.getElem?_eq_some_iff.1 hx).1⟩)
      (fun s => by
       unfold sortedE
       rw [isort_len]
       have := ofState_len a.edges s a.edges.length
       have := sa.edges
       omega)
     rcases resW_cases (valid29 a) 5 (wordsL a (sortedE a.edges) 5 3001 0 [([], a.start)]) with ⟨c, hc, hne⟩ | ⟨ws, hws, hc⟩
     ·rw [hc] at k30
      generalize compareV a b = v at *
      obtain ⟨⟨o, w, ls, ps, gd⟩, d⟩ := v
      have hne2 : (c != 0) = true := by simpa using hne
      simp only [encTab, encG, List.cons_append, List.nil_append] at k17a k17b k18 k30
      refine impl_w Tryz.func8 z8 Tryz.ntmps8 (by simp) ?_
      simp only [slotsOf]
      conv => arg 2; reduce
      by_cases hd : d = 0
      ·skip
       have q_ := aN hd <| aN hne <| hne2
       repeat' first | refine St.go ?_ | ((with_reducible refine cn ?_ ?_) <;> intro h <;> (try simp [q_] at h) <;> try omega) | (refine Ru.go ?_; intro K hK; simp [go_sem, encG, q_]; (try simp (disch := omega) only [wx, z_i]); (first | apply hK | ((try refine .inl ?_); refine ⟨_, by (try intro hc); (repeat' first | exact k16 | exact k17a | exact k17b | exact k18 | exact k30 | exact hc | refine And.intro ?_ ?_ | simp [go_sem, encG, q_]); first | done | omega, ?_⟩; first | apply hK | (refine ⟨by simp [go_sem, encG, q_], ?_⟩; first | apply hK | refine ⟨by simp [go_sem, encG, q_], hK _ _ ?_⟩)) | refine ⟨.one (.one (.bool false)), by simp [go_sem, encG, q_], hK _ _ ?_⟩ | refine ⟨ob, ?_⟩ | refine ⟨hK _ ?_, fun h => ?_⟩ | refine ⟨?_, ?_⟩); all_goals ((try apply hK); clear hK K))
       all_goals try clear q_
       simp [go_sem]
      ·skip
       have q_ := aN hd <| aN hne <| hne2
       repeat' first | refine St.go ?_ | ((with_reducible refine cn ?_ ?_) <;> intro h <;> (try simp [q_] at h) <;> try omega) | (refine Ru.go ?_; intro K hK; simp [go_sem, encG, q_]; (try simp (disch := omega) only [wx, z_i]); (first | apply hK | ((try refine .inl ?_); refine ⟨_, by (try intro hc); (repeat' first | exact k16 | exact k17a | exact k17b | exact k18 | exact k30 | exact hc | refine And.intro ?_ ?_ | simp [go_sem, encG, q_]); first | done | omega, ?_⟩; first | apply hK | (refine ⟨by simp [go_sem, encG, q_], ?_⟩; first | apply hK | refine ⟨by simp [go_sem, encG, q_], hK _ _ ?_⟩)) | refine ⟨.one (.one (.bool false)), by simp [go_sem, encG, q_], hK _ _ ?_⟩ | refine ⟨ob, ?_⟩ | refine ⟨hK _ ?_, fun h => ?_⟩ | refine ⟨?_, ?_⟩); all_goals ((try apply hK); clear hK K))
       all_goals try clear q_
       simp [go_sem]
     ·rw [hc] at k30
      obtain ⟨hwl, hwn⟩ := words_keep _ _ _ _ (by simp) (by simp) hws
      have hwp := words_path _ _ _ _ (by simp [PathE]) hws
      rcases compareV_cases a b with ⟨d, hd, hne⟩ | ⟨hd, hn, he⟩
      ·rw [hd] at k18
       have hne2 : (d != 0) = true := by simpa using hne
       simp only [encTab, noTab, encG, noG, List.cons_append, List.nil_append, List.map_nil] at k17a k17b k18 k30
       refine impl_w Tryz.func8 z8 Tryz.ntmps8 (by simp) ?_
       simp only [slotsOf]
       conv => arg 2; reduce
       repeat' first | refine St.go ?_ | ((with_reducible refine cn ?_ ?_) <;> intro h <;> (try simp [hne, hne2] at h) <;> try omega) | (refine Ru.go ?_; intro K hK; simp [go_sem, encG, hne, hne2]; (try simp (disch := omega) only [wx, z_i]); (first | apply hK | ((try refine .inl ?_); refine ⟨_, by (try intro hc); (repeat' first | exact k16 | exact k17a | exact k17b | exact k18 | exact k30 | exact hc | refine And.intro ?_ ?_ | simp [go_sem, encG, hne, hne2]); first | done | omega, ?_⟩; first | apply hK | (refine ⟨by simp [go_sem, encG, hne, hne2], ?_⟩; first | apply hK | refine ⟨by simp [go_sem, encG, hne, hne2], hK _ _ ?_⟩)) | refine ⟨.one (.one (.bool false)), by simp [go_sem, encG, hne, hne2], hK _ _ ?_⟩ | refine ⟨ob, ?_⟩ | refine ⟨hK _ ?_, fun h => ?_⟩ | refine ⟨?_, ?_⟩); all_goals ((try apply hK); clear hK K))
       simp [go_sem]
      ·rw [hd] at k18
       obtain ⟨va, vb⟩ := compareV_valid (a := a) (b := b) (by rw [hd])
       have ea := sa.edges
       have eb := sb.edges
       have hpl : (cmpTab a b).pairs.length <= 1000000 := Nat.le_trans (pairs_len hn) (by decide)
       exact f8g a b (cmpTab a b) ws rfl rfl k16 k17a k17b k18 k30
        (fun q x => f22 (cmpTab a b) q x (by show a.edges.length <= _; omega) (by show b.edges.length <= _; omega) hpl)
        (fun x => f24 (cmpTab a b) x) (fun s x => f31 a s x sa) (fun s x => f31 b s x sb) (fun s x => f32 a s x (by omega)) (fun s x => f32 b s x (by omega))
        (fun i p hp x hx hs => after_at hn (valid_ord va) hp hx hs)
        (fun p hp x hx hs => next_lt hn hp hx hs)
        (fun x hx => next_one hx fun y hy h1 h2 => edge_one (valid_ord va) hx hy h1 h2)
        (fun x hx y hy h1 h2 => edge_one (valid_ord vb) hx hy h1 h2)
        (pairs_zero (tab0 a b)) hpl hwp (by omega) (fun w hw => by have := hwn w hw; omega)
end Go.Av

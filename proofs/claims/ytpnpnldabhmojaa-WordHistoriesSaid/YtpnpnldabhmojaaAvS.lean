/- What is known less widely: what an operation makes of the slots that it looks at, it makes of all. -/
import Derived.Test.YtpnpnldabhmojaaAvO
set_option linter.unusedVariables false
set_option linter.unusedSimpArgs false
namespace Go.Av
open Go Go.RowKit

def Env.under (e' e : Env) : Prop := ∀ t, e'.get t = .no ∨ e'.get t = e.get t

section
variable {e' e : Env}

theorem under_root (h : e'.under e) {s : Nat} {x : DV} (hx : e'.root s = some x) : e.root s = some x := by
  rcases h s with h1 | h1
  · rw [Env.root, h1] at hx; cases hx
  · rw [Env.root, ← h1]; exact hx

theorem under_at (h : e'.under e) {s : Nat} {p : List (Nat × Nat)} {y : DV} (hx : e'.at s p = some y) : e.at s p = some y := by
  unfold Env.at at *
  split at hx
  · rename_i x hr
    rw [under_root h hr]
    exact hx
  · cases hx

theorem under_opd (h : e'.under e) (x : Operand) : opd e' x = .no ∨ opd e' x = opd e x := by
  cases x with
  | tmp t =>
    rcases h t with h1 | h1
    · left
      show (e'.get t).asOpd t = .no
      rw [h1]
      rfl
    · right
      show (e'.get t).asOpd t = (e.get t).asOpd t
      rw [h1]
  | _ => right; rfl

theorem under_opd_eq (h : e'.under e) {x : Operand} {v : AV} (hx : opd e' x = v) (hn : v ≠ .no) : opd e x = v := by
  rcases under_opd h x with h1 | h1
  · rw [h1] at hx; exact (hn hx.symm).elim
  · rw [← h1]; exact hx

theorem under_box (h : e'.under e) {P : Program} {o : Op} {l : List DV} (hx : abox e' o P = some l) : abox e o P = some l := by
  unfold abox at *
  split at hx
  · split at hx
    · rename_i y hy
      rw [under_opd_eq h hy (by simp)]
      exact hx
    · cases hx
  · exact hx
  · cases hx

theorem under_parts (h : e'.under e) : ∀ (l : List (Nat × Operand)) {r : List (Nat × List DV)}, partsOf e' l = some r → partsOf e l = some r
  | [], _, hx => hx
  | (i, x) :: rest, r, hx => by
    simp only [partsOf] at *
    split at hx
    · rename_i y l hy hl
      rw [under_opd_eq h hy (by simp), under_parts h rest hl]
      exact hx
    · cases hx

theorem under_buildSlice (h : e'.under e) {P : Program} {t : TypeId} {len : Nat} {parts : Array (Nat × Operand)} {x : DV} (hx : abuildSlice P e' t len parts = some x) : abuildSlice P e t len parts = some x := by
  unfold abuildSlice at *
  split at hx
  · split at hx
    · split at hx
      · rename_i dp hdp
        rw [under_parts h _ hdp]
        exact hx
      · cases hx
    · cases hx
  · cases hx

theorem under_make (h : e'.under e) {P : Program} {t : TypeId} {len cap : Operand} {ob : Prop} {x : DV} (hx : amake P e' t len cap = some (ob, x)) : amake P e t len cap = some (ob, x) := by
  unfold amake at *
  split at hx
  · split at hx
    · split at hx
      · rename_i h1 h2
        rw [under_opd_eq h h1 (by simp), under_opd_eq h h2 (by simp)]
        exact hx
      · cases hx
    · cases hx
  · cases hx

theorem under_sliceOf (h : e'.under e) {a : AV} {els : List (List DV)} (hx : sliceOf e' a = some els) : sliceOf e a = some els := by
  unfold sliceOf at *
  split at hx
  · exact hx
  · split at hx
    · rename_i y hy
      rw [under_at h hy]
      exact hx
    · cases hx
  · split at hx
    · rename_i y hy
      rw [under_at h hy]
      exact hx
    · cases hx
  · cases hx

theorem sliceOf_no {els : List (List DV)} : sliceOf e .no ≠ some els := by simp [sliceOf]

/-- What append takes. -/
def AV.given : AV → Option (Nat × List (Nat × Nat))
  | .al s p => some (s, p)
  | _ => none

def Env.loses (e : Env) : Option (Nat × List (Nat × Nat)) → Env
  | some (s, p) => e.give s p
  | none => e

def appendOn (e : Env) : Op → Option (Nat × List (Nat × Nat))
  | .call c => match c.args.toList with
    | x :: _ => (opd e x).given
    | _ => none
  | _ => none

theorem under_append (h : e'.under e) {P : Program} {o : Op} {ob : Prop} {e2 : Env} {x : DV} (hx : aappend P e' o = some (ob, e2, x)) : e2 = e'.loses (appendOn e' o) ∧ appendOn e o = appendOn e' o ∧ aappend P e o = some (ob, e.loses (appendOn e' o), x) := by
  unfold aappend at hx
  split at hx
  · rename_i c
    split at hx
    · rename_i X Y t t' hcal hargs htys
      split at hx
      · rename_i el _ h1 h2
        split at hx
        · rename_i z bz _ h3 h4 h5
          split at hx
          · rename_i news hs
            have hs' : sliceOf e (opd e Y) = some news := by
              rcases under_opd h Y with h6 | h6
              · rw [h6] at hs; exact (sliceOf_no hs).elim
              · rw [← h6]; exact under_sliceOf h hs
            split at hx
            · rename_i hX
              have hX' := under_opd_eq h hX (by simp)
              simp only [Option.some.injEq, Prod.mk.injEq] at hx
              obtain ⟨rfl, rfl, rfl⟩ := hx
              simp only [appendOn, hargs, hX, hX', AV.given, Env.loses, aappend, hcal, htys, h1, h2, h3, h4, h5, hs', and_self]
            · rename_i s p hX
              have hX' := under_opd_eq h hX (by simp)
              split at hx
              · rename_i z' els hat
                have hat' := under_at h hat
                simp only [Option.some.injEq, Prod.mk.injEq] at hx
                obtain ⟨rfl, rfl, rfl⟩ := hx
                simp only [appendOn, hargs, hX, hX', AV.given, Env.loses, aappend, hcal, htys, h1, h2, h3, h4, h5, hs', hat', and_self]
              · cases hx
            · cases hx
          · cases hx
        · cases hx
      · cases hx
    · cases hx
  · cases hx

theorem under_arg (h : e'.under e) {a : AV} {y : SV} (hx : argOf e' a = some y) : argOf e a = some y ∧ a.owned e' = a.owned e := by
  unfold argOf at hx
  split at hx
  · exact ⟨hx, rfl⟩
  · rename_i x hne
    refine ⟨?_, rfl⟩
    unfold argOf
    split
    · rename_i heq
      injection heq with heq
      exact (hne heq).elim
    · rename_i heq
      injection heq with heq
      rw [← heq]
      exact hx
    · rename_i heq; cases heq
    · rename_i heq; cases heq
    · rename_i heq; cases heq
    · rename_i h1 h2 h3 h4 h5
      exact (h2 x rfl).elim
  · rename_i s p
    split at hx
    · rename_i y' hat
      have hat' := under_at h hat
      simp only [argOf, hat', AV.owned, hat]
      exact ⟨hx, trivial⟩
    · cases hx
  · rename_i s p lo hi
    split at hx
    · rename_i z els hat
      have hat' := under_at h hat
      simp only [argOf, hat', AV.owned]
      exact ⟨hx, trivial⟩
    · cases hx
  · rename_i s p n
    split at hx
    · rename_i l hat
      have hat' := under_at h hat
      simp only [argOf, hat', AV.owned]
      exact ⟨hx, trivial⟩
    · cases hx
  · cases hx

theorem under_args (h : e'.under e) : ∀ (xs : List Operand) {ys : List SV}, argsOf e' xs = some ys → argsOf e xs = some ys ∧ xs.any (fun x => (opd e' x).owned e') = xs.any (fun x => (opd e x).owned e)
  | [], _, hx => ⟨hx, rfl⟩
  | x :: xs, ys, hx => by
    simp only [argsOf] at *
    split at hx
    · rename_i y ys' h1 h2
      obtain ⟨g1, g2⟩ := under_args h xs h2
      have h3 : opd e' x = opd e x := by
        rcases under_opd h x with h4 | h4
        · rw [h4] at h1; simp [argOf] at h1
        · exact h4
      obtain ⟨g3, g4⟩ := under_arg h h1
      rw [h3] at g3
      rw [g3, g1]
      refine ⟨hx, ?_⟩
      simp only [List.any_cons, g2]
      rw [h3] at g4 ⊢
      rw [g4]
    · cases hx

theorem under_call (h : e'.under e) {o : Op} {f : FuncId} {ys : List SV} {b : Bool} (hx : acall e' o = some (f, ys, b)) : acall e o = some (f, ys, b) := by
  unfold acall at *
  split at hx
  · split at hx
    · split at hx
      · rename_i ys' hys
        obtain ⟨g1, g2⟩ := under_args h _ hys
        rw [g1, ← g2]
        exact hx
      · cases hx
    · cases hx
  · cases hx
end

end Go.Av

/- Part of a proof. -/
import Derived.Test.YtpdfolkoejbbgaaGreatDoorQAvR
import Derived.Test.YtpdfolkoejbbgaaGreatDoorQAvRX
import Derived.Test.YtpdfolkoejbbgaaGreatDoorQB00
import Derived.Test.YtpdfolkoejbbgaaGreatDoorQB01
import Derived.Test.YtpdfolkoejbbgaaGreatDoorQB02
import Derived.Test.YtpdfolkoejbbgaaGreatDoorQB03
import Derived.Test.YtpdfolkoejbbgaaGreatDoorQB04
import Derived.Test.YtpdfolkoejbbgaaGreatDoorQB05
import Derived.Test.YtpdfolkoejbbgaaGreatDoorQB06
import Derived.Test.YtpdfolkoejbbgaaGreatDoorQB07
import Derived.Test.YtpdfolkoejbbgaaGreatDoorQB08
import Derived.Test.YtpdfolkoejbbgaaGreatDoorQB09
import Derived.Test.YtpdfolkoejbbgaaGreatDoorQB10
import Derived.Test.YtpdfolkoejbbgaaGreatDoorQB11
import Derived.Test.YtpdfolkoejbbgaaGreatDoorQB12
import Derived.Test.YtpdfolkoejbbgaaGreatDoorQB13
import Derived.Test.YtpdfolkoejbbgaaGreatDoorQB14
import Derived.Test.YtpdfolkoejbbgaaGreatDoorQB15
import Derived.Test.YtpdfolkoejbbgaaGreatDoorQB16
import Derived.Test.YtpdfolkoejbbgaaGreatDoorQB17
import Derived.Test.YtpdfolkoejbbgaaGreatDoorQC0
import Derived.Test.YtpdfolkoejbbgaaGreatDoorQF1
import Derived.Test.YtpdfolkoejbbgaaGreatDoorQF2
import Derived.Test.YtpdfolkoejbbgaaGreatDoorQF3
import Derived.Test.YtpdfolkoejbbgaaGreatDoorQF4
import Derived.Test.YtpdfolkoejbbgaaGreatDoorQF5
import Derived.Test.YtpdfolkoejbbgaaGreatDoorQF6
import Derived.Test.YtpdfolkoejbbgaaGreatDoorQF7
import Derived.Test.YtpdfolkoejbbgaaGreatDoorQF8
import Derived.Test.YtpdfolkoejbbgaaGreatDoorQF9
set_option linter.unusedVariables false
set_option linter.unusedSimpArgs false
set_option maxHeartbeats 64000000
namespace Go.Av
open Go Go.RowKit Go.Proofs
def c7 : AC :=
 .seq (.reg [xS 3 (.box 27 (xT 0)), xS 6 (xY false)] ⟨1, 0, []⟩ []) (.seq (.seq (.reg [xS 18 (xC 16 #[] #[]), xS 19 (xU 18), xS 20 (xM 19), xG 21 (xL 27 3) 20 false, xG 22 (xC 17 #[xT 21] #[27]) 20 false, xG 23 (xU 22) 20 false, xS 24 (xQ 20 23 true), xS 25 (xM 24), xG 26 (xL 27 3) 25 false, xG 27 (xC 26 #[xT 26] #[27]) 25 false, xG 28 (xU 27) 25 false, xS 29 (xQ 25 28 true), xS 30 (xM 29), xG 31 (xF 27 3 2) 30 false, xG 32 (xL 23 31) 30 false, xG 33 (xN 32 23) 30 false, xG 34 (xJ .geq 33 40) 30 false, xS 35 (xQ 30 34 true), xS 36 (xM 35), xG 37 (xL 27 3) 36 false, xG 38 (xC 27 #[xT 37, .const (.string ⟨#[122, 122, 95, 109, 111, 114, 101]⟩)] #[27, 9]) 36 false, xG 39 (xJ .geq 38 0) 36 false, xS 40 (xQ 36 39 true)] ⟨18, 39, []⟩ []) (.cond (.tmp 40) (.seq (.reg [xS 41 (xC 16 #[] #[]), xS 6 (xP 41)] ⟨41, 41, []⟩ []) .ret) .skip)) (.seq (.reg [xS 42 (xM 1), xS 43 (.convert 5 3 (xT 42)), xS 44 (xF 27 3 3), xS 45 (xL 3 44), xS 46 (xO .rem 43 45), xS 7 (xP 46)] ⟨42, 46, []⟩ []) (.seq (.reg [xS 47 (xL 27 3), xS 48 (xM 7), xS 49 (xC 28 #[xT 47, xT 48] #[27, 3]), xS 8 (xP 49)] ⟨47, 49, []⟩ []) (.seq (.seq (.drw [⟨xS 50 (xM 8), []⟩, ⟨xS 51 (xN 50 37), [50]⟩, ⟨xS 52 (xJ .eql 51 0), [51, 50]⟩, ⟨xS 53 (xM 52), [52, 51, 50]⟩, ⟨xG 54 (xF 27 3 6) 53 false, [53, 52, 51, 50]⟩, ⟨xG 55 (xL 24 54) 53 false, [54, 53, 52, 51, 50]⟩, ⟨xG 56 (xM 8) 53 false, [53, 52, 51, 50]⟩, ⟨xG 57 (.indexAddr 37 (xT 56) (xI 0)) 53 false, [56, 53, 52, 51, 50]⟩, ⟨xG 58 (xL 3 57) 53 false, [57, 56, 53, 52, 51, 50]⟩, ⟨xG 59 (xA 24 55 58) 53 false, [55, 54, 58, 57, 56, 53, 52, 51, 50]⟩, ⟨xG 60 (xF 65 59 3) 53 false, [59, 55, 54, 58, 57, 56, 53, 52, 51, 50]⟩, ⟨xG 61 (xL 4 60) 53 false, [60, 59, 55, 54, 58, 57, 56, 53, 52, 51, 50]⟩, ⟨xS 62 (xQ 53 61 true), [61, 60, 59, 55, 54, 58, 57, 56, 53, 52, 51, 50]⟩] [] ⟨50, 62, []⟩ ⟨50, 61, []⟩ []) (.cond (.tmp 62) (.seq (.reg [xS 6 (xY true)] ⟨1, 0, []⟩ []) .ret) .skip)) (.seq (.drw [⟨xS 63 (xF 27 3 6), []⟩, ⟨xS 64 (xL 24 63), [63]⟩, ⟨xS 65 (xM 8), []⟩, ⟨xS 66 (.indexAddr 37 (xT 65) (xI 0)), [65]⟩, ⟨xS 67 (xL 3 66), [66, 65]⟩, ⟨xS 68 (xA 24 64 67), [64, 63, 67, 66, 65]⟩, ⟨xS 69 (xF 65 68 1), [68, 64, 63, 67, 66, 65]⟩, ⟨xS 70 (xF 52 69 0), [69, 68, 64, 63, 67, 66, 65]⟩, ⟨xS 71 (xL 3 70), [70, 69, 68, 64, 63, 67, 66, 65]⟩, ⟨xS 72 (xM 2), []⟩, ⟨xS 73 (.convert 5 3 (xT 72)), [72]⟩, ⟨xS 74 (xF 27 3 1), []⟩, ⟨xS 75 (xL 22 74), [74]⟩, ⟨xS 76 (xN 75 22), [75, 74]⟩, ⟨xS 77 (xO .rem 73 76), [73, 72, 76, 75, 74]⟩] [⟨xS 9 (xP 71), [71, 70, 69, 68, 64, 63, 67, 66, 65], [false, false, false, false, false, false, false, false, false, true, true, true, true, true, true]⟩, ⟨xS 10 (xP 77), [77, 73, 72, 76, 75, 74], []⟩] ⟨63, 77, []⟩ ⟨63, 77, []⟩ []) (.seq (.seq (.reg [xS 78 (xM 9), xS 79 (xM 10), xS 80 (xO .eql 78 79)] ⟨78, 79, []⟩ []) (.cond (.tmp 80) (.seq (.reg [xS 6 (xY true)] ⟨1, 0, []⟩ []) .ret) .skip)) (.seq (.reg [xS 11 (xZ 0)] ⟨1, 0, []⟩ []) (.seq (.seq (.reg [xS 81 (xF 27 3 2), xS 82 (xL 23 81), xS 83 (xN 82 23), xS 84 (.move (xI 0))] ⟨81, 81, []⟩ []) (.block 0 (.loop (.seq (.reg [xS 85 (xO .lss 84 83)] ⟨1, 0, []⟩ []) (.seq (.cond (.tmp 85) .skip (.exit 0)) (.seq (.block 1 (.seq (.reg [xS 86 (xA 23 82 84), xS 87 (xL 71 86), xS 13 (.alloc 71), x0 (xW 71 13 87)] ⟨86, 87, []⟩ []) (.reg [xS 88 (xM 11), xS 89 (xF 71 13 1), xS 90 (xL 66 89), xS 91 (xN 90 66), xS 92 (xO .add 88 91), xS 11 (xP 92)] ⟨88, 92, []⟩ []))) (.reg [xS 93 (xJ .add 84 1), xS 84 (xM 93)] ⟨93, 93, []⟩ []))))))) (.seq (.reg [xS 94 (xL 27 3), xS 14 (.alloc 27), x0 (xW 27 14 94)] ⟨94, 94, []⟩ []) (.seq (.reg [xS 95 (.buildSlice 23 0 #[]), xS 96 (xF 27 3 2), xS 97 (xL 23 96), xS 98 (.call ⟨.builtin .append, #[xT 95, xT 97], #[23, 23]⟩), xS 99 (xM 11), xS 100 (.build 71 #[(0, .const (.string ⟨#[122, 122, 95, 109, 111, 114, 101]⟩)), (2, xT 99)]), xS 101 (.buildSlice 23 1 #[(0, xT 100)]), xS 102 (.call ⟨.builtin .append, #[xT 98, xT 101], #[23, 23]⟩), xS 103 (xF 27 14 2), x0 (xW 23 103 102)] ⟨95, 103, []⟩ []) (.seq (.drw [⟨xS 104 (.buildSlice 24 0 #[]), []⟩, ⟨xS 105 (xF 27 3 6), []⟩, ⟨xS 106 (xL 24 105), [105]⟩, ⟨xS 107 (.call ⟨.builtin .append, #[xT 104, xT 106], #[24, 24]⟩), [106, 105]⟩, ⟨xS 108 (xM 7), []⟩, ⟨xS 109 (xM 9), []⟩, ⟨xS 110 (xM 10), []⟩, ⟨xS 111 (xF 27 3 2), []⟩, ⟨xS 112 (xL 23 111), [111]⟩, ⟨xS 113 (xN 112 23), [112, 111]⟩, ⟨xS 114 (.build 52 #[(0, xT 109), (1, xT 110), (2, xT 113)]), [109, 110, 113, 112, 111]⟩, ⟨xS 115 (xF 27 3 5), []⟩, ⟨xS 116 (xL 3 115), [115]⟩, ⟨xS 117 (.build 65 #[(0, xT 108), (1, xT 114), (2, xT 116)]), [108, 114, 109, 110, 113, 112, 111, 116, 115]⟩, ⟨xS 118 (.buildSlice 24 1 #[(0, xT 117)]), [117, 108, 114, 109, 110, 113, 112, 111, 116, 115]⟩, ⟨xS 119 (.call ⟨.builtin .append, #[xT 107, xT 118], #[24, 24]⟩), [106, 105, 118, 117, 108, 114, 109, 110, 113, 112, 111, 116, 115]⟩, ⟨xS 120 (xF 27 14 6), []⟩] [⟨x0 (xW 24 120 119), [120, 119, 106, 105, 118, 117, 108, 114, 109, 110, 113, 112, 111, 116, 115], []⟩] ⟨104, 120, []⟩ ⟨104, 120, []⟩ []) (.seq (.reg [xS 122 (xL 27 3), xS 123 (xL 27 14), xS 124 (xC 18 #[xT 122, xT 123] #[27, 27]), xS 121 (xM 124), xS 125 (xE 121 0), xS 126 (xE 121 1), xS 15 (.alloc 41), x0 (xW 41 15 125), xS 16 (xP 126)] ⟨121, 126, []⟩ []) (.seq (.seq (.reg [xS 127 (xM 16), xS 128 (.binOp .neq 42 (xT 127) (xI 0) 42), xS 129 (xM 128), xG 130 (xL 27 14) 129 false, xG 131 (xC 29 #[xT 130] #[27]) 129 false, xG 132 (xU 131) 129 false, xS 133 (xQ 129 132 true)] ⟨127, 132, []⟩ []) (.cond (.tmp 133) (.seq (.reg [xS 6 (xY false)] ⟨1, 0, []⟩ []) .ret) .skip)) (.seq (.seq (.reg [xS 134 (xF 41 15 3), xS 135 (xL 38 134), xS 136 (xN 135 38), xS 137 (.move (xI 0))] ⟨134, 135, []⟩ []) (.block 2 (.loop (.seq (.reg [xS 138 (xO .lss 137 136)] ⟨1, 0, []⟩ []) (.seq (.cond (.tmp 138) .skip (.exit 2)) (.seq (.block 3 (.seq (.reg [xS 139 (xM 137), xS 17 (xP 139)] ⟨139, 139, []⟩ []) (.seq (.reg [xS 140 (xF 41 15 4), xS 141 (xL 39 140), xS 142 (xM 17), xS 143 (xA 39 141 142), xS 144 (xL 4 143), xS 145 (xU 144)] ⟨140, 144, []⟩ []) (.cond (.tmp 145) (.seq (.reg [xS 6 (xY false)] ⟨1, 0, []⟩ []) .ret) .skip)))) (.reg [xS 146 (xJ .add 137 1), xS 137 (xM 146)] ⟨146, 146, []⟩ []))))))) (.seq (.reg [xS 147 (xF 41 15 4), xS 148 (xL 39 147), xS 149 (xN 148 39), xS 150 (xF 27 3 3), xS 151 (xL 3 150), xS 152 (xO .eql 149 151), xS 6 (xP 152)] ⟨147, 152, []⟩ []) .ret)))))))))))))))
theorem z7 : FnF Tryz.prog Tryz.f7 153 c7 [.tmp 6] := ⟨by kernel_rfl, by kernel_rfl, by kernel_rfl, by kernel_rfl, by decide⟩
theorem z27 : FnR Tryz.prog Tryz.f27 22 [.tmp 4] := {}
end Go.Av
namespace Go.Av
open Go Go.Proofs
end Go.Av
namespace Go.Av
open Go Go.RowKit Go.Proofs
set_option maxRecDepth 8000
@[go_sem] theorem frzLL_append : ∀ (l m : List (List DV)), frzLL (l ++ m) = frzLL l ++ frzLL m
 | [], m => rfl
 | x :: l, m => by simp [frzLL, frzLL_append l m]
end Go.Av
namespace Go.Av
open Go Go.RowKit Go.Proofs
set_option maxRecDepth 8000
theorem f27 (g : Glob) (nm : ByteArray) (hl : g.decls.length <= 1000000) : Impl Tryz.prog 27 [.ag (encG g), .one (.str nm)] (.one (.one (.int .i64 (firstB (fun d => d.name == nm) g.decls)))) := by
 refine impl_w Tryz.func27 z27 Tryz.ntmps27 (by simp) ?_
 simp only [slotsOf]
 conv => arg 2; reduce
 repeat' first | refine St.go ?_ | ((with_reducible refine z_Y (t := ?_) ?hc (fun h => ?_) (fun h => ?_)); (case hc => rfl); all_goals (try simp [go_sem, encG] at h); all_goals try omega) | (refine Ru.go ?_; intro K hK; simp [go_sem, encG]; (try simp (disch := omega) only [z_h, z_i, eq_self, true_and]); (first | apply hK | refine ⟨by first | omega | (simp [z_f, z_g, encG]; first | done | omega), ?_⟩ | refine ⟨hK _ ?_, fun h => ?_⟩ | refine ⟨?_, ?_⟩); all_goals ((try apply hK); clear hK K))
 refine z_k (fun n e => ∃ k : Nat, k + n = g.decls.length /\ (g.decls.take k).any (fun d => d.name == nm) = false /\ e = [(5, .sv (.one (.int .i64 k))), (2, .sv (.one (.bx (encG g)))), (1, .sv (.one (.str nm)))]) g.decls.length _ ⟨0, by simp, by simp, rfl⟩ (by simp [go_sem, encG]) ?_
 rintro n e ⟨k, hk, h0, rfl⟩
 by_cases hlt : k < g.decls.length
 ·obtain ⟨d, hd⟩ : ∃ d, g.decls[k] = d := ⟨_, rfl⟩
  cases hx : (d.name == nm) with
  | true =>
    have hf := firstB_at (p := fun d => d.name == nm) hlt h0 (by rw [hd]; exact hx)
    repeat' first | refine St.go ?_ | ((with_reducible refine z_Y (t := ?_) ?hc (fun h => ?_) (fun h => ?_)); (case hc => rfl); all_goals (try simp [go_sem, hlt, hd, encG, encD, hx] at h); all_goals try omega) | (refine Ru.go ?_; intro K hK; simp [go_sem, hlt, hd, encG, encD, hx]; (try simp (disch := omega) only [z_h, z_i, eq_self, true_and]); (first | apply hK | refine ⟨by first | omega | (simp [z_f, z_g, hlt, hd, encG, encD, hx]; first | done | omega), ?_⟩ | refine ⟨hK _ ?_, fun h => ?_⟩ | refine ⟨?_, ?_⟩); all_goals ((try apply hK); clear hK K))
    simp [go_sem, hf]
  | false =>
    repeat' first | refine St.go ?_ | ((with_reducible refine z_Y (t := ?_) ?hc (fun h => ?_) (fun h => ?_)); (case hc => rfl); all_goals (try simp [go_sem, hlt, hd, encG, encD, hx] at h); all_goals try omega) | (refine Ru.go ?_; intro K hK; simp [go_sem, hlt, hd, encG, encD, hx]; (try simp (disch := omega) only [z_h, z_i, eq_self, true_and]); (first | apply hK | refine ⟨by first | omega | (simp [z_f, z_g, hlt, hd, encG, encD, hx]; first | done | omega), ?_⟩ | refine ⟨hK _ ?_, fun h => ?_⟩ | refine ⟨?_, ?_⟩); all_goals ((try apply hK); clear hK K))
    refine z_j (n - 1) _ (by omega) ⟨k + 1, by omega, ?_, rfl⟩ ?_
    ·rw [any_succ hlt, h0, hd, hx]; rfl
    ·simp [go_sem, encG]
 ·have hkl : g.decls.take k = g.decls := List.take_of_length_le (by omega)
  rw [hkl] at h0
  have hf := firstB_none h0
  repeat' first | refine St.go ?_ | ((with_reducible refine z_Y (t := ?_) ?hc (fun h => ?_) (fun h => ?_)); (case hc => rfl); all_goals (try simp [go_sem, hlt, encG] at h); all_goals try omega) | (refine Ru.go ?_; intro K hK; simp [go_sem, hlt, encG]; (try simp (disch := omega) only [z_h, z_i, eq_self, true_and]); (first | apply hK | refine ⟨by first | omega | (simp [z_f, z_g, hlt, encG]; first | done | omega), ?_⟩ | refine ⟨hK _ ?_, fun h => ?_⟩ | refine ⟨?_, ?_⟩); all_goals ((try apply hK); clear hK K))
  simp [go_sem, hf]
end Go.Av
namespace Go.Av
open Go Go.RowKit Go.Proofs
set_option maxRecDepth 8000
theorem reach_mono {R R' : Nat -> Nat -> Prop} (h : ∀ u v, R u v -> R' u v) {s v : Nat} (hr : Reach R s v) : Reach R' s v := by
 induction hr with
 | refl => exact .refl
 | step u v _ e ih => exact .step u v ih (h u v e)
end Go.Av
namespace Go.Av
open Go Go.RowKit Go.Proofs
set_option maxRecDepth 8000
def zzN : ByteArray := ⟨#[122, 122, 95, 109, 111, 114, 101]⟩
def moreD (g : Glob) : Dcl := ⟨zzN, [], ((allF g.decls).length : Int), [], []⟩
def moreE (g : Glob) (s f p : Int) : Edg := ⟨s, ⟨f, p, (g.decls.length : Int)⟩, g.end_, false⟩
def moreG (g : Glob) (s f p : Int) : Glob := ⟨g.name, g.roles, g.decls ++ [moreD g], g.states, g.start, g.end_, g.edges ++ [moreE g s f p], g.timeouts⟩
structure MoreOk (g : Glob) (s f p : Int) (x0 : Edg) : Prop where
 valid : valid29 g = true
 decls : g.decls.length < 40
 edges : g.edges.length <= 80
 name : g.decls.any (fun d => d.name == zzN) = false
 mem : x0 ∈ g.edges
 from_ : x0.from_ = s
 again : x0.again = false
 sender : x0.act.from_ = f
 peer0 : 0 <= p
 peer1 : p < g.roles.length
 ne : f ≠ p
theorem allF_more (g : Glob) : allF (g.decls ++ [moreD g]) = allF g.decls := by
 unfold allF
 rw [List.flatMap_append]
 simp [moreD]
theorem okDecl_more {g : Glob} {s f p : Int} {x0 : Edg} (h : MoreOk g s f p x0) : validD (g.decls ++ [moreD g]) = true := by
 have hv := (valid_num h.valid).2
 unfold validD at hv ⊢
 rw [allF_more]
 simp only [Bool.and_eq_true, decide_eq_true_eq, List.all_eq_true, List.mem_range] at hv ⊢
 refine ⟨⟨by have := h.decls; simp; omega, hv.1.2⟩, fun i hi => ?_⟩
 rw [okDeclAt_get hi, allF_more]
 by_cases hlt : i < g.decls.length
 ·have h1 := hv.2 i hlt
  rw [okDeclAt_get hlt] at h1
  have e1 : (g.decls ++ [moreD g])[i] = g.decls[i] := List.getElem_append_left hlt
  have e2 : (g.decls ++ [moreD g]).take i = g.decls.take i := List.take_append_of_le_length (by omega)
  rw [e1, e2]
  exact h1
 ·have hie : i = g.decls.length := by simp at hi; omega
  subst hie
  have e1 : (g.decls ++ [moreD g])[g.decls.length] = moreD g := by simp
  have e2 : (g.decls ++ [moreD g]).take g.decls.length = g.decls := by simp
  rw [e1, e2]
  have p1 : isPath zzN = true := by kernel_rfl
  have p2 : g.decls.any (fun x => x.name == zzN) = false := h.name
  simp only [moreD]
  rw [p1, p2]
  simp [okFields, okGuard]
theorem okEdge_more {g : Glob} {s f p : Int} {x : Edg} (h : okEdge g x = true) : okEdge (moreG g s f p) x = true := by
 have e1 : (moreG g s f p).states = g.states := rfl
 have e2 : (moreG g s f p).roles = g.roles := rfl
 have e3 : (moreG g s f p).decls.length = g.decls.length + 1 := by simp [moreG]
 unfold okEdge stateB at h ⊢
 rw [e1, e2, e3]
 simp only [Bool.and_eq_true, decide_eq_true_eq] at h ⊢
 omega
theorem numbered_more {g : Glob} {s f p : Int} {x0 : Edg} (h : MoreOk g s f p x0) : numbered (moreG g s f p) = true := by
 have hv := (valid_num h.valid).1
 have hx := (numbered_facts hv).2.2.2.2.2.2 x0 h.mem
 unfold numbered at hv ⊢
 simp only [Bool.and_eq_true, decide_eq_true_eq, List.all_eq_true] at hv ⊢
 obtain ⟨⟨⟨⟨⟨h1, h2⟩, h3⟩, h4⟩, h5⟩, h6⟩ := hv
 refine ⟨⟨⟨⟨⟨h1, h2⟩, h3⟩, h4⟩, ?_⟩, fun x hx' => ?_⟩
 ·have := h.edges
  show (g.edges ++ [moreE g s f p]).length <= 400
  simp
  omega
 ·have hm : x ∈ g.edges ++ [moreE g s f p] := hx'
  rcases List.mem_append.1 hm with hm | hm
  ·exact okEdge_more (h6 x hm)
  ·rw [List.mem_singleton.1 hm]
   have q1 := h.from_
   have q2 := h.sender
   have q3 := h.peer0
   have q4 := h.peer1
   have q5 := h.ne
   simp only [okEdge, stateB, Bool.and_eq_true, decide_eq_true_eq] at hx
   have e1 : (moreG g s f p).states = g.states := rfl
   have e2 : (moreG g s f p).roles = g.roles := rfl
   have e3 : (moreG g s f p).decls.length = g.decls.length + 1 := by simp [moreG]
   show okEdge (moreG g s f p) ⟨s, ⟨f, p, (g.decls.length : Int)⟩, g.end_, false⟩ = true
   unfold okEdge stateB
   rw [e1, e2, e3]
   rw [q1, q2] at hx
   have h4' : (0 <= g.end_) /\ g.end_ < g.states := by
    have := h4
    simpa [stateB] using this
   simp only [Bool.and_eq_true, decide_eq_true_eq]
   omega
theorem ord_pair {g : Glob} (ho : orderedB g true = true) {i k : Nat} (hi : i < g.edges.length) (hk : k < g.edges.length) : bad1 (i == k) g.edges[i] g.edges[k] = false /\ bad2 g.edges[i] g.edges[k] = false := by
 unfold orderedB at ho
 have h1 := List.all_eq_true.1 ho i (List.mem_range.2 hi)
 rw [ordAt_get hi] at h1
 simp only [Bool.and_eq_true] at h1
 have h2 := h1.2
 unfold okRow at h2
 have h3 := List.all_eq_true.1 h2 k (List.mem_range.2 hk)
 unfold okPr at h3
 rw [List.getElem?_eq_getElem hk] at h3
 simp only [Bool.and_eq_true, Bool.not_eq_true'] at h3
 exact h3
theorem ord_end {g : Glob} (ho : orderedB g true = true) {x : Edg} (hx : x ∈ g.edges) : x.from_ ≠ g.end_ /\ (x.again = true -> x.from_ ≠ g.start) := by
 obtain ⟨i, hi, rfl⟩ := List.mem_iff_getElem.1 hx
 unfold orderedB at ho
 have h1 := List.all_eq_true.1 ho i (List.mem_range.2 hi)
 rw [ordAt_get hi] at h1
 simp only [Bool.and_eq_true, Bool.not_eq_true', Bool.true_and, beq_eq_false_iff_ne, Bool.and_eq_false_iff] at h1
 refine ⟨h1.1.1, fun ha => ?_⟩
 rcases h1.1.2 with h | h
 ·rw [ha] at h; cases h
 ·exact h
theorem ord_sender {g : Glob} {s f p : Int} {x0 : Edg} (h : MoreOk g s f p x0) {x : Edg} (hx : x ∈ g.edges) (hs : x.from_ = s) : x.act.from_ = f /\ x.again = false := by
 have ho := valid_ord h.valid
 obtain ⟨i, hi, rfl⟩ := List.mem_iff_getElem.1 hx
 obtain ⟨k, hk, hkx⟩ := List.mem_iff_getElem.1 h.mem
 by_cases e : i = k
 ·subst e
  rw [hkx]
  exact ⟨h.sender, h.again⟩
 ·have h1 := (ord_pair ho hi hk).1
  have e2 : (i == k) = false := by simpa using e
  rw [hkx] at h1
  simp only [bad1, e2, hs, h.from_, Bool.not_false, beq_self_eq_true, Bool.true_and, Bool.or_eq_false_iff] at h1
  refine ⟨?_, h1.2⟩
  have := h1.1.2
  rw [h.sender] at this
  simpa using this
theorem label_lt {g : Glob} (hn : numbered g = true) {x : Edg} (hx : x ∈ g.edges) : 0 <= x.act.label /\ x.act.label < g.decls.length := edge_label hn x hx
theorem ordered_more {g : Glob} {s f p : Int} {x0 : Edg} (h : MoreOk g s f p x0) : orderedB (moreG g s f p) true = true := by
 have ho := valid_ord h.valid
 have hn := (valid_num h.valid).1
 have hse : s ≠ g.end_ := by have := (ord_end ho h.mem).1; rw [h.from_] at this; exact this
 have hE : (moreG g s f p).edges = g.edges ++ [moreE g s f p] := rfl
 unfold orderedB
 rw [List.all_eq_true]
 intro i hi
 have hi' : i < (moreG g s f p).edges.length := List.mem_range.1 hi
 rw [ordAt_get hi']
 have hcase : ∀ j (hj : j < (moreG g s f p).edges.length), (∃ hj' : j < g.edges.length, (moreG g s f p).edges[j] = g.edges[j]) \/ (j = g.edges.length /\ (moreG g s f p).edges[j] = moreE g s f p) := by
  intro j hj
  by_cases hlt : j < g.edges.length
  ·left
   exact ⟨hlt, List.getElem_append_left hlt⟩
  ·right
   have hje : j = g.edges.length := by rw [hE] at hj; simp at hj; omega
   subst hje
   exact ⟨rfl, by simp [moreG]⟩
 simp only [Bool.and_eq_true, Bool.not_eq_true', Bool.true_and, beq_eq_false_iff_ne]
 refine ⟨⟨?_, ?_⟩, ?_⟩
 ·rcases hcase i hi' with ⟨hj, e⟩ | ⟨_, e⟩
  ·rw [e]; exact (ord_end ho (List.getElem_mem hj)).1
  ·rw [e]; exact hse
 ·rcases hcase i hi' with ⟨hj, e⟩ | ⟨_, e⟩
  ·rw [e]
   have := (ord_end ho (List.getElem_mem hj)).2
   cases ha : g.edges[i].again
   ·simp
   ·have h2 := this ha
    have h3 : ((g.edges[i]).from_ == (moreG g s f p).start) = false := by simpa [moreG] using h2
    simp [h3]
  ·rw [e]; simp [moreE]
 ·unfold okRow
  rw [List.all_eq_true]
  intro k hk
  have hk' : k < (moreG g s f p).edges.length := List.mem_range.1 hk
  unfold okPr
  rw [List.getElem?_eq_getElem hk']
  simp only [Bool.and_eq_true, Bool.not_eq_true']
  rcases hcase i hi' with ⟨hj, e⟩ | ⟨hie, e⟩
  ·rcases hcase k hk' with ⟨hl, e'⟩ | ⟨hke, e'⟩
   ·rw [e, e']; exact ord_pair ho hj hl
   ·rw [e, e']
    have hxm := List.getElem_mem hj
    have hne : (i == k) = false := by simp; omega
    have hl := label_lt hn hxm
    have hend := (ord_end ho hxm).1
    refine ⟨?_, ?_⟩
    ·by_cases hs : g.edges[i].from_ = s
     ·obtain ⟨s1, s2⟩ := ord_sender h hxm hs
      have h3 : (g.edges[i].act.label == (g.decls.length : Int)) = false := by simp; omega
      simp [bad1, moreE, actEq, s1, s2, h3]
     ·have h3 : (g.edges[i].from_ == s) = false := by simpa using hs
      simp [bad1, moreE, h3]
    ·have h3 : (g.end_ == g.edges[i].from_) = false := by simpa using fun e => hend e.symm
     simp [bad2, moreE, h3]
  ·rcases hcase k hk' with ⟨hl, e'⟩ | ⟨hke, e'⟩
   ·rw [e, e']
    have hxm := List.getElem_mem hl
    have hlb := label_lt hn hxm
    refine ⟨?_, by simp [bad2, moreE]⟩
    by_cases hs : g.edges[k].from_ = s
    ·obtain ⟨s1, s2⟩ := ord_sender h hxm hs
     have h3 : ((g.decls.length : Int) == g.edges[k].act.label) = false := by simp; omega
     simp [bad1, moreE, actEq, s1, h3]
    ·have h3 : (s == g.edges[k].from_) = false := by simpa using fun e => hs e.symm
     simp [bad1, moreE, h3]
   ·rw [e, e']
    have hik : (i == k) = true := by simp; omega
    simp [bad1, bad2, moreE, hik]
theorem timed_more {g : Glob} {s f p : Int} (h : timedP g = true) : timedP (moreG g s f p) = true := by
 unfold timedP at h ⊢
 rw [List.all_eq_true] at h ⊢
 intro i hi
 have hi' : i < g.timeouts.length := List.mem_range.1 hi
 have h1 := h i (List.mem_range.2 hi')
 have e : timedAt (moreG g s f p) i = (decide (lastOf g i < g.timeouts[i].state) && tmAt (moreG g s f p) g.timeouts[i]) := timedAt_get (g := moreG g s f p) hi'
 rw [timedAt_get hi', Bool.and_eq_true] at h1
 rw [e, Bool.and_eq_true]
 refine ⟨h1.1, ?_⟩
 have h2 := h1.2
 unfold tmAt at h2 ⊢
 simp only [Bool.and_eq_true, decide_eq_true_eq] at h2 ⊢
 obtain ⟨⟨⟨⟨t1, t2⟩, t3⟩, t4⟩, t5⟩ := h2
 have hE : (moreG g s f p).edges = g.edges ++ [moreE g s f p] := rfl
 refine ⟨⟨⟨⟨t1, t2⟩, t3⟩, by rw [hE]; simp; omega⟩, ?_⟩
 rw [hE, List.getElem?_append_left (by omega)]
 exact t5
theorem spread_more {g : Glob} {s f p : Int} {x0 : Edg} (h : MoreOk g s f p x0) (back : Bool) {u : Int} (h0 : 0 <= u) (h1 : u < g.states) (hs : anyNeg (spread g u.toNat back) = false) : anyNeg (spread (moreG g s f p) u.toNat back) = false := by
 have hn := numbered_facts (valid_num h.valid).1
 have hm := numbered_facts (numbered_more h)
 have hb : ∀ x ∈ g.edges, eB back x < g.states.toNat := fun x hx => by
  have := okEdge_facts (hn.2.2.2.2.2.2 x hx)
  unfold eB
  split <;> omega
 have hb' : ∀ x ∈ (moreG g s f p).edges, eB back x < g.states.toNat := fun x hx => by
  have h2 := okEdge_facts (hm.2.2.2.2.2.2 x hx)
  have h3 : (moreG g s f p).states = g.states := rfl
  rw [h3] at h2
  unfold eB
  split <;> omega
 have hu : u.toNat < g.states.toNat := by omega
 obtain ⟨p1, p2⟩ := spread_reach (back := back) hb hu
 obtain ⟨q1, q2⟩ := spread_reach (back := back) hb' hu
 have h4 := (anyNeg_iff p1 p2).1 hs
 refine (anyNeg_iff q1 q2).2 fun v hv => reach_mono ?_ (h4 v hv)
 rintro a b ⟨x, hx, e1, e2⟩
 exact ⟨x, List.mem_append.2 (.inl hx), e1, e2⟩
theorem valid_more {g : Glob} {s f p : Int} {x0 : Edg} (h : MoreOk g s f p x0) : valid29 (moreG g s f p) = true := by
 have hv := h.valid
 obtain ⟨_, _, n3, n4, n5, n6, _⟩ := numbered_facts (valid_num h.valid).1
 have h1 := numbered_more h
 have h2 := okDecl_more h
 have h3 := ordered_more h
 unfold valid29 at hv
 simp only [Bool.and_eq_true, Bool.not_eq_true'] at hv
 obtain ⟨⟨⟨⟨⟨⟨v1, _⟩, _⟩, _⟩, v5⟩, v6⟩, v7⟩ := hv
 have h4 := timed_more (s := s) (f := f) (p := p) v5
 have h5 := spread_more h false n3 n4 v6
 have h6 := spread_more h true n5 n6 v7
 unfold valid29
 have e1 : named (moreG g s f p) = true := v1
 have e2 : validD (moreG g s f p).decls = true := h2
 rw [e1, h1, e2, h3, h4]
 have h5' : anyNeg (spread (moreG g s f p) (moreG g s f p).start.toNat false) = false := h5
 have h6' : anyNeg (spread (moreG g s f p) (moreG g s f p).end_.toNat true) = false := h6
 rw [h5', h6']
 rfl
theorem diag_step {t : Tab} (hf : ∀ x ∈ t.old.edges, folB t x.from_ x = x.to) {p : Pr} (hp : p.1 = p.2) {x : Edg} (hx : x ∈ t.old.edges) (hs : x.from_ = p.1) : stepX t p x = (x.to, x.to) := by
 unfold stepX
 rw [<- hp, <- hs, hf x hx]
theorem diag_pairs {t : Tab} (h0 : t.new.start = t.old.start) (hf : ∀ x ∈ t.old.edges, folB t x.from_ x = x.to) : ∀ p ∈ cmpPairs t, p.1 = p.2 := by
 refine bfs_keeps (C := fun p => p.1 = p.2) ?_ _ _ _ ?_
 ·intro p hp q hq
  obtain ⟨x, hx, hs, rfl⟩ := succ_mem.1 hq
  rw [diag_step hf hp hx hs]
 ·intro p hp
  rw [List.mem_singleton.1 hp]
  exact h0.symm
theorem diag_good {t : Tab} (hn : numT t) (h0 : t.new.start = t.old.start) (h1 : t.new.end_ = t.old.end_) (hf : ∀ x ∈ t.old.edges, folB t x.from_ x = x.to) {i : Nat} (hi : i < (cmpGood t (cmpPairs t)).length) : (cmpGood t (cmpPairs t))[i]? = some true := by
 rw [good_len] at hi
 refine good_keep (t := t) (fun p => p ∈ cmpPairs t) (pairs_closed hn) ?_ (List.getElem?_eq_getElem hi) (List.getElem_mem hi)
 intro p hp _
 refine ⟨?_, fun q hq => pairs_closed hn p hp q hq⟩
 have hd := diag_pairs h0 hf p hp
 obtain ⟨b1, b2, b3, b4⟩ := pairs_box hn p hp
 simp only [initB, Bool.and_eq_true, Bool.or_eq_true, decide_eq_true_eq, Bool.not_eq_true', beq_iff_eq, beq_eq_false_iff_ne]
 refine ⟨by omega, ?_⟩
 by_cases e : p.1 = t.old.end_
 ·exact .inr (by omega)
 ·exact .inl e
theorem diag_all {t : Tab} (hn : numT t) (h0 : t.new.start = t.old.start) (hf : ∀ x ∈ t.old.edges, folB t x.from_ x = x.to) (hr : ∀ v, v < t.old.states.toNat -> Reach (stepR false t.old.edges) t.old.start.toNat v) : ∀ v, v < t.old.states.toNat -> ((v : Int), (v : Int)) ∈ cmpPairs t := by
 obtain ⟨n1, n2, n3, n4, n5, n6, n7⟩ := numbered_facts hn.1
 intro v hlt
 refine reach_closed (P := fun v => ((v : Int), (v : Int)) ∈ cmpPairs t) ?_ ?_ (hr v hlt)
 ·have hz := List.mem_of_getElem? (pairs_zero t)
  have e : ((t.old.start.toNat : Nat) : Int) = t.old.start := by omega
  simp only [e]
  rw [h0] at hz
  exact hz
 ·rintro u w hu ⟨x, hx, h1, h2⟩
  have hfx := okEdge_facts (n7 x hx)
  have e1 : x.from_ = (u : Int) := by
   have : x.from_.toNat = u := h1
   omega
  have e2 : x.to = (w : Int) := by
   have : x.to.toNat = w := h2
   omega
  have := pairs_closed hn _ hu (stepX t ((u : Int), (u : Int)) x) (succ_mem.2 ⟨x, hx, e1, rfl⟩)
  rw [diag_step hf rfl hx e1, e2] at this
  exact this
theorem diag_len {t : Tab} (hn : numT t) (h0 : t.new.start = t.old.start) (hf : ∀ x ∈ t.old.edges, folB t x.from_ x = x.to) (hr : ∀ v, v < t.old.states.toNat -> Reach (stepR false t.old.edges) t.old.start.toNat v) : (cmpPairs t).length = t.old.states.toNat := by
 have hnd : (cmpPairs t).Nodup := bfs_nodup _ _ _ (by simp)
 have hmap : ((cmpPairs t).map fun p => p.1.toNat).Nodup := by
  rw [List.Nodup, List.pairwise_map]
  refine List.Pairwise.imp_of_mem ?_ hnd
  intro x y hx hy hne he
  have x1 := diag_pairs h0 hf x hx
  have y1 := diag_pairs h0 hf y hy
  obtain ⟨x2, _⟩ := pairs_box hn x hx
  obtain ⟨y2, _⟩ := pairs_box hn y hy
  exact hne (Prod.ext (by omega) (by omega))
 have hle := nodup_lt t.old.states.toNat _ hmap (fun z hz => by
  obtain ⟨p, hp, rfl⟩ := List.mem_map.1 hz
  obtain ⟨b1, b2, _⟩ := pairs_box hn p hp
  have b2' : p.1 < t.old.states.toNat := b2
  omega)
 have hge := range_le t.old.states.toNat ((cmpPairs t).map fun p => p.1.toNat) (fun v hv' => List.mem_map.2 ⟨_, diag_all hn h0 hf hr v hv', by simp⟩)
 simp only [List.length_map] at hge hle
 omega
theorem varsOf_more (g : Glob) : varsOf (g.decls ++ [moreD g]) = varsOf g.decls := by
 unfold varsOf
 rw [List.flatMap_append]
 simp [moreD]
theorem labAt_more {g : Glob} {s f p : Int} (hv : validD g.decls = true) {i : Nat} (hi : i < g.decls.length) : labAt (moreG g s f p) g.decls[i] = i := by
 have hl : i < (g.decls ++ [moreD g]).length := by simp; omega
 have e1 : (g.decls ++ [moreD g])[i] = g.decls[i] := List.getElem_append_left hi
 refine firstB_at (p := fun e : Dcl => e.name == g.decls[i].name) (l := g.decls ++ [moreD g]) hl ?_ ?_
 ·rw [List.take_append_of_le_length (by omega)]
  exact valid_names hv hi
 ·rw [e1, bytes_eq]; simp
theorem compare_more {g : Glob} {s f p : Int} {x0 : Edg} (h : MoreOk g s f p x0) : compareV g (moreG g s f p) = (cmpTab g (moreG g s f p), 0) := by
 have hv := (valid_num h.valid).2
 have hall : g.decls.all (okLab g (moreG g s f p)) = true := by
  rw [List.all_eq_true]
  intro d hd
  obtain ⟨i, hi, rfl⟩ := List.mem_iff_getElem.1 hd
  unfold okLab
  rw [labAt_more hv hi]
  have hD : (moreG g s f p).decls = g.decls ++ [moreD g] := rfl
  have e : (moreG g s f p).decls[((i : Nat) : Int).toNat]?.getD g.decls[i] = g.decls[i] := by
   rw [Int.toNat_natCast, hD, List.getElem?_append_left hi, List.getElem?_eq_getElem hi]; rfl
  rw [e, hD, varsOf_more, agreeB_refl]
  simp
 unfold compareV
 rw [if_pos ⟨h.valid, valid_more h⟩, if_pos (show g.roles = (moreG g s f p).roles from rfl), if_pos hall]
theorem folB_more {g : Glob} {s f p : Int} {x0 : Edg} (h : MoreOk g s f p x0) {x : Edg} (hx : x ∈ g.edges) : folB (tab0 g (moreG g s f p)) x.from_ x = x.to := by
 have hn := (valid_num h.valid).1
 obtain ⟨_, _, _, _, _, _, n7⟩ := numbered_facts hn
 have hl := edge_label hn x hx
 have hlt : x.act.label.toNat < g.decls.length := by omega
 have hr : renB (tab0 g (moreG g s f p)).labels x.act = (x.act, true) := by
  show renB (g.decls.map (labAt (moreG g s f p))) x.act = _
  unfold renB
  rw [getD_map _ _ _ hlt, labAt_more (valid_num h.valid).2 hlt, List.length_map, if_pos ⟨hl.1, hl.2, by omega⟩]
  have : ((x.act.label.toNat : Nat) : Int) = x.act.label := by omega
  rw [this]
 have hf := okEdge_facts (n7 x hx)
 have hxm : x ∈ (moreG g s f p).edges := List.mem_append.2 (.inl hx)
 unfold folB
 rw [hr, if_pos ⟨hf.1, rfl⟩]
 exact folE_one hxm fun y hy h1 h2 => edge_one (valid_ord (valid_more h)) hxm hy h1 h2
theorem more_law {g : Glob} {s f p : Int} {x0 : Edg} (h : MoreOk g s f p x0) : compareV g (moreG g s f p) = (cmpTab g (moreG g s f p), 0) /\ (((cmpTab g (moreG g s f p)).good.length : Nat) : Int) = g.states /\ (((cmpTab g (moreG g s f p)).pairs.length : Nat) : Int) = g.states /\ ∀ i (hi : i < (cmpTab g (moreG g s f p)).good.length), (cmpTab g (moreG g s f p)).good[i] = true := by
 have hn : numT (tab0 g (moreG g s f p)) := ⟨(valid_num h.valid).1, numbered_more h⟩
 have hf : ∀ x ∈ (tab0 g (moreG g s f p)).old.edges, folB (tab0 g (moreG g s f p)) x.from_ x = x.to := fun x hx => folB_more h hx
 obtain ⟨n1, _⟩ := numbered_facts hn.1
 have hlen := diag_len hn rfl hf (reached_all h.valid)
 have hst : (tab0 g (moreG g s f p)).old.states = g.states := rfl
 rw [hst] at hlen n1
 have h2 : (cmpTab g (moreG g s f p)).pairs.length = g.states.toNat := hlen
 have h3 : (cmpTab g (moreG g s f p)).good.length = (cmpTab g (moreG g s f p)).pairs.length := good_len _ _
 refine ⟨compare_more h, by omega, by omega, fun i hi => ?_⟩
 have h4 := diag_good hn rfl rfl hf (i := i) hi
 exact (List.getElem?_eq_some_iff.1 h4).2
def rawMore (g : Glob) (s f p : Int) : List DV := [.str g.name, .sl (g.roles.map encS), .sl (g.decls.map encD ++ [rawD (moreD g)]), .int .i64 g.states, .int .i64 g.start, .int .i64 g.end_, .sl (g.edges.map encEd ++ [encEd (moreE g s f p)]), .sl (g.timeouts.map encT)]
theorem more_enc (g : Glob) (s f p : Int) {w : World} {S : Nat -> Prop} {v : Value} {r : List Nat} (h : CzS w S v (.ag (rawMore g s f p)) r) : CzS w S v (.ag (encG (moreG g s f p))) r := by
 cases h with
 | ag vs l r hl =>
   refine .ag _ _ _ ?_
   unfold rawMore at hl
   have e : encG (moreG g s f p) = [.str g.name, .sl (g.roles.map encS), .sl ((g.decls ++ [moreD g]).map encD), .int .i64 g.states, .int .i64 g.start, .int .i64 g.end_, .sl (g.edges.map encEd ++ [encEd (moreE g s f p)]), .sl (g.timeouts.map encT)] := by
    simp [encG, moreG]
   rw [e]
   generalize vs.toList = vl at hl
   cases hl with
   | cons _ _ _ _ _ _ h1 hl =>
     cases hl with
     | cons _ _ _ _ _ _ h2 hl =>
       cases hl with
       | cons _ _ _ _ _ _ h3 hl =>
         refine .cons _ _ _ _ _ _ h1 (.cons _ _ _ _ _ _ h2 (.cons _ _ _ _ _ _ (sl_toward ?_ ?_ h3) hl))
         ·simp [rawD, encD]
         ·rw [List.map_append, List.flatten_append, List.flatten_append]
          refine towardD_pre ?_ _
          simp [moreD, rawD, encD, towardD, DV.toward]
theorem less1 {f : FuncId} {g : Glob} {s t p : Int} {r : RV} (h : Impl Tryz.prog f [.ag (encG (moreG g s t p))] r) : Impl Tryz.prog f [.ag (rawMore g s t p)] r := by
 refine h.less fun w S vs hcz => ?_
 generalize hz : ([] : List Nat) = z at hcz
 cases hcz with
 | cons v x r vs xs rs h1 hs => exact CzSL.cons _ _ _ _ _ _ (more_enc _ _ _ _ h1) hs
theorem less2 {f : FuncId} {x : SV} {g : Glob} {s t p : Int} {r : RV} (h : Impl Tryz.prog f [x, .ag (encG (moreG g s t p))] r) : Impl Tryz.prog f [x, .ag (rawMore g s t p)] r := by
 refine h.less fun w S vs hcz => ?_
 generalize hz : ([] : List Nat) = z at hcz
 cases hcz with
 | cons v x r vs xs rs h1 hs =>
   cases hs with
   | cons v x r vs xs rs h2 hs => exact CzSL.cons _ _ _ _ _ _ h1 (CzSL.cons _ _ _ _ _ _ (more_enc _ _ _ _ h2) hs)
theorem small_more {g : Glob} {s f p : Int} {x0 : Edg} (h : MoreOk g s f p x0) (hs : Small g) : Small (moreG g s f p) := by
 have h1 := h.decls
 have h2 := h.edges
 refine ⟨hs.roles, ?_, fun d hd => ?_, fun d hd => ?_, ?_, hs.timeouts⟩
 ·show (g.decls ++ [moreD g]).length <= 1000
  simp; omega
 ·have hm : d ∈ g.decls ++ [moreD g] := hd
  rcases List.mem_append.1 hm with hm | hm
  ·exact hs.fields d hm
  ·rw [List.mem_singleton.1 hm]; simp [moreD]
 ·have hm : d ∈ g.decls ++ [moreD g] := hd
  rcases List.mem_append.1 hm with hm | hm
  ·exact hs.parts d hm
  ·rw [List.mem_singleton.1 hm]
   refine ⟨by simp [moreD], by simp [moreD], ?_⟩
   show zzN.size <= _
   decide
 ·show (g.edges ++ [moreE g s f p]).length <= 1000
  simp; omega
theorem frz_encEd (x : Edg) : frzL (encEd x) = encEd x := rfl
theorem f7 (h109 : H109) (g : Glob) (st to : Int) (ha : GlobA g) (hst : 0 <= st /\ st <= 255) (hto : 0 <= to /\ to <= 255) : Impl Tryz.prog 7 [.ag (encG g), .one (.int .u8 st), .one (.int .u8 to)] (.one (.one (.bool true))) := by
 have k16 := f16 h109
 have k17 := f17 g ha.1 (fun d hd => (ha.2 d hd).2)
 simp only [encG] at k17
 refine impl_z Tryz.func7 z7 Tryz.ntmps7 (by simp) ?_
 simp only [c7, slotsOf]
 cases fa : few31 g with
 | false =>
   rw [fa] at k17
   repeat' first | refine St.go ?_ | ((with_reducible refine z_Y (t := ?_) ?hc (fun h => ?_) (fun h => ?_)); (case hc => rfl); all_goals (try simp [go_sem, encG] at h); all_goals try omega) | (refine Ru.go ?_; intro K hK; simp [go_sem, encG]; (try simp (disch := omega) only [z_h, z_i, eq_self, true_and]); (first | apply hK | ((try refine .inl ?_); refine ⟨_, by (try intro hc); (repeat' first | exact k16 | exact k17 | exact hc | refine And.intro ?_ ?_ | simp [go_sem, encG]); first | done | omega, ?_⟩; first | apply hK | (refine ⟨by simp [go_sem, encG], ?_⟩; first | apply hK | refine ⟨by simp [go_sem, encG], hK _ _ ?_⟩)) | refine ⟨.one (.one (.bool false)), by simp [go_sem, encG], hK _ _ ?_⟩ | refine ⟨by first | omega | (simp [z_f, z_g, encG]; first | done | omega), ?_⟩ | refine ⟨hK _ ?_, fun h => ?_⟩ | refine ⟨?_, ?_⟩); all_goals ((try apply hK); clear hK K))
   simp [go_sem]
 | true =>
   rw [fa] at k17
   have sg := few31_small (g := g) fa fun d hd => (ha.2 d hd).1
   have k26 := f26 g sg
   rw [<- valid_eq] at k26
   have k27 := f27 g zzN (by have := sg.decls; omega)
   simp only [encG] at k26 k27
   cases hv : valid29 g with
   | false =>
     rw [hv] at k26
     repeat' first | refine St.go ?_ | ((with_reducible refine z_Y (t := ?_) ?hc (fun h => ?_) (fun h => ?_)); (case hc => rfl); all_goals (try simp [go_sem, encG] at h); all_goals try omega) | (refine Ru.go ?_; intro K hK; simp [go_sem, encG]; (try simp (disch := omega) only [z_h, z_i, eq_self, true_and]); (first | apply hK | ((try refine .inl ?_); refine ⟨_, by (try intro hc); (repeat' first | exact k16 | exact k17 | exact k26 | exact hc | refine And.intro ?_ ?_ | simp [go_sem, encG]); first | done | omega, ?_⟩; first | apply hK | (refine ⟨by simp [go_sem, encG], ?_⟩; first | apply hK | refine ⟨by simp [go_sem, encG], hK _ _ ?_⟩)) | refine ⟨.one (.one (.bool false)), by simp [go_sem, encG], hK _ _ ?_⟩ | refine ⟨by first | omega | (simp [z_f, z_g, encG]; first | done | omega), ?_⟩ | refine ⟨hK _ ?_, fun h => ?_⟩ | refine ⟨?_, ?_⟩); all_goals ((try apply hK); clear hK K))
     simp [go_sem]
   | true =>
     rw [hv] at k26
     by_cases h40 : (40 : Int) <= g.decls.length
     ·skip
      repeat' first | refine St.go ?_ | ((with_reducible refine z_Y (t := ?_) ?hc (fun h => ?_) (fun h => ?_)); (case hc => rfl); all_goals (try simp [go_sem, encG, h40] at h); all_goals try omega) | (refine Ru.go ?_; intro K hK; simp [go_sem, encG, h40]; (try simp (disch := omega) only [z_h, z_i, eq_self, true_and]); (first | apply hK | ((try refine .inl ?_); refine ⟨_, by (try intro hc); (repeat' first | exact k16 | exact k17 | exact k26 | exact hc | refine And.intro ?_ ?_ | simp [go_sem, encG, h40]); first | done | omega, ?_⟩; first | apply hK | (refine ⟨by simp [go_sem, encG, h40], ?_⟩; first | apply hK | refine ⟨by simp [go_sem, encG, h40], hK _ _ ?_⟩)) | refine ⟨.one (.one (.bool false)), by simp [go_sem, encG, h40], hK _ _ ?_⟩ | refine ⟨by first | omega | (simp [z_f, z_g, encG, h40]; first | done | omega), ?_⟩ | refine ⟨hK _ ?_, fun h => ?_⟩ | refine ⟨?_, ?_⟩); all_goals ((try apply hK); clear hK K))
      simp [go_sem]
     ·obtain ⟨lz, hlz⟩ : ∃ lz, firstB (fun d : Dcl => d.name == zzN) g.decls = lz := ⟨_, rfl⟩
      rw [hlz] at k27
      unfold zzN at k27
      by_cases hl0 : 0 <= lz
      ·skip
       repeat' first | refine St.go ?_ | ((with_reducible refine z_Y (t := ?_) ?hc (fun h => ?_) (fun h => ?_)); (case hc => rfl); all_goals (try simp [go_sem, encG, h40, hl0] at h); all_goals try omega) | (refine Ru.go ?_; intro K hK; simp [go_sem, encG, h40, hl0]; (try simp (disch := omega) only [z_h, z_i, eq_self, true_and]); (first | apply hK | ((try refine .inl ?_); refine ⟨_, by (try intro hc); (repeat' first | exact k16 | exact k17 | exact k26 | exact k27 | exact hc | refine And.intro ?_ ?_ | simp [go_sem, encG, h40, hl0]); first | done | omega, ?_⟩; first | apply hK | (refine ⟨by simp [go_sem, encG, h40, hl0], ?_⟩; first | apply hK | refine ⟨by simp [go_sem, encG, h40, hl0], hK _ _ ?_⟩)) | refine ⟨.one (.one (.bool false)), by simp [go_sem, encG, h40, hl0], hK _ _ ?_⟩ | refine ⟨by first | omega | (simp [z_f, z_g, encG, h40, hl0]; first | done | omega), ?_⟩ | refine ⟨hK _ ?_, fun h => ?_⟩ | refine ⟨?_, ?_⟩); all_goals ((try apply hK); clear hK K))
       simp [go_sem]
      ·have hlz0 : lz < 0 := by omega
       refine z_l [(6, .sv (.one (.bool false))), (3, .sv (.one (.bx (encG g)))), (2, .sv (.one (.int .u8 to))), (1, .sv (.one (.int .u8 st)))] ?_ ?_
       ·skip
        repeat' first | refine St.go ?_ | ((with_reducible refine z_Y (t := ?_) ?hc (fun h => ?_) (fun h => ?_)); (case hc => rfl); all_goals (try simp [go_sem, encG] at h); all_goals try omega) | (refine Ru.go ?_; intro K hK; simp [go_sem, encG]; (try simp (disch := omega) only [z_h, z_i, eq_self, true_and]); (first | apply hK | refine ⟨by first | omega | (simp [z_f, z_g, encG]; first | done | omega), ?_⟩ | refine ⟨hK _ ?_, fun h => ?_⟩ | refine ⟨?_, ?_⟩); all_goals ((try apply hK); clear hK K))
        refine z_m ?_
        first | (simp [go_sem, encG]; done) | (simp [go_sem, encG]; exact of_eq_true (le_self _))
       refine z_l [(6, .sv (.one (.bool false))), (3, .sv (.one (.bx (encG g)))), (2, .sv (.one (.int .u8 to))), (1, .sv (.one (.int .u8 st)))] ?_ ?_
       ·skip
        repeat' first | refine St.go ?_ | ((with_reducible refine z_Y (t := ?_) ?hc (fun h => ?_) (fun h => ?_)); (case hc => rfl); all_goals (try simp [go_sem, encG, h40, hl0] at h); all_goals try omega) | (refine Ru.go ?_; intro K hK; simp [go_sem, encG, h40, hl0]; (try simp (disch := omega) only [z_h, z_i, eq_self, true_and]); (first | apply hK | ((try refine .inl ?_); refine ⟨_, by (try intro hc); (repeat' first | exact k16 | exact k17 | exact k26 | exact k27 | exact hc | refine And.intro ?_ ?_ | simp [go_sem, encG, h40, hl0]); first | done | omega, ?_⟩; first | apply hK | (refine ⟨by simp [go_sem, encG, h40, hl0], ?_⟩; first | apply hK | refine ⟨by simp [go_sem, encG, h40, hl0], hK _ _ ?_⟩)) | refine ⟨.one (.one (.bool false)), by simp [go_sem, encG, h40, hl0], hK _ _ ?_⟩ | refine ⟨by first | omega | (simp [z_f, z_g, encG, h40, hl0]; first | done | omega), ?_⟩ | refine ⟨hK _ ?_, fun h => ?_⟩ | refine ⟨?_, ?_⟩); all_goals ((try apply hK); clear hK K))
        refine z_m ?_
        first | (simp [go_sem, encG]; done) | (simp [go_sem, encG]; exact of_eq_true (le_self _))
       obtain ⟨n1, n2, n3, n4, n5, n6, n7⟩ := numbered_facts (valid_num hv).1
       have hs0 : ¬ g.states = 0 := by omega
       obtain ⟨s, hs⟩ : ∃ s, st.tmod g.states = s := ⟨_, rfl⟩
       have hsr : 0 <= s /\ s < g.states := by
        rw [<- hs]
        exact ⟨Int.tmod_nonneg _ hst.1, Int.tmod_lt_of_pos _ (by omega)⟩
       refine z_l [(7, .sv (.one (.int .i64 s))), (6, .sv (.one (.bool false))), (3, .sv (.one (.bx (encG g)))), (2, .sv (.one (.int .u8 to))), (1, .sv (.one (.int .u8 st)))] ?_ ?_
       ·skip
        repeat' first | refine St.go ?_ | ((with_reducible refine z_Y (t := ?_) ?hc (fun h => ?_) (fun h => ?_)); (case hc => rfl); all_goals (try simp [go_sem, encG, hs0, hs] at h); all_goals try omega) | (refine Ru.go ?_; intro K hK; simp [go_sem, encG, hs0, hs]; (try simp (disch := omega) only [z_h, z_i, eq_self, true_and]); (first | apply hK | refine ⟨by first | omega | (simp [z_f, z_g, encG, hs0, hs]; first | done | omega), ?_⟩ | refine ⟨hK _ ?_, fun h => ?_⟩ | refine ⟨?_, ?_⟩); all_goals ((try apply hK); clear hK K))
        refine z_m ?_
        first | (simp [go_sem, encG]; done) | (simp [go_sem, encG]; exact of_eq_true (le_self _))
       obtain ⟨ks, hks⟩ : ∃ ks, sortedE g.edges s = ks := ⟨_, rfl⟩
       have k28 := f28 g s (by have := sg.edges; omega)
       rw [hks] at k28
       simp only [encG] at k28
       refine z_l [(8, .sv (.one (.ow 1 (ks.map encN)))), (7, .sv (.one (.int .i64 s))), (6, .sv (.one (.bool false))), (3, .sv (.one (.bx (encG g)))), (2, .sv (.one (.int .u8 to))), (1, .sv (.one (.int .u8 st)))] ?_ ?_
       ·skip
        repeat' first | refine St.go ?_ | ((with_reducible refine z_Y (t := ?_) ?hc (fun h => ?_) (fun h => ?_)); (case hc => rfl); all_goals (try simp [go_sem, encG] at h); all_goals try omega) | (refine Ru.go ?_; intro K hK; simp [go_sem, encG]; (try simp (disch := omega) only [z_h, z_i, eq_self, true_and]); (first | apply hK | ((try refine .inl ?_); refine ⟨_, by (try intro hc); (repeat' first | exact k28 | exact hc | refine And.intro ?_ ?_ | simp [go_sem, encG]); first | done | omega, ?_⟩; first | apply hK | (refine ⟨by simp [go_sem, encG], ?_⟩; first | apply hK | refine ⟨by simp [go_sem, encG], hK _ _ ?_⟩)) | refine ⟨.one (.one (.bool false)), by simp [go_sem, encG], hK _ _ ?_⟩ | refine ⟨by first | omega | (simp [z_f, z_g, encG]; first | done | omega), ?_⟩ | refine ⟨hK _ ?_, fun h => ?_⟩ | refine ⟨?_, ?_⟩); all_goals ((try apply hK); clear hK K))
        refine z_m ?_
        first | (simp [go_sem, encG]; done) | (simp [go_sem, encG]; exact of_eq_true (le_self _))
       cases ks with
       | nil =>
         repeat' first | refine St.go ?_ | ((with_reducible refine z_Y (t := ?_) ?hc (fun h => ?_) (fun h => ?_)); (case hc => rfl); all_goals (try simp [go_sem, encG] at h); all_goals try omega) | (refine Ru.go ?_; intro K hK; simp [go_sem, encG]; (try simp (disch := omega) only [z_h, z_i, eq_self, true_and]); (first | apply hK | refine ⟨by first | omega | (simp [z_f, z_g, encG]; first | done | omega), ?_⟩ | refine ⟨hK _ ?_, fun h => ?_⟩ | refine ⟨?_, ?_⟩); all_goals ((try apply hK); clear hK K))
         simp [go_sem]
       | cons z zs =>
         have hz : z ∈ sortedE g.edges s := by rw [hks]; simp
         obtain ⟨x0, hx0, hz0, hxs⟩ := mem_sortedE.1 hz
         obtain ⟨hzl, hzx⟩ := List.getElem?_eq_some_iff.1 hx0
         have hzl2 : z < g.edges.length := by omega
         cases hag : x0.again with
         | true =>
           repeat' first | refine St.go ?_ | ((with_reducible refine z_Y (t := ?_) ?hc (fun h => ?_) (fun h => ?_)); (case hc => rfl); all_goals (try simp [go_sem, hz0, hzl, hzl2, hzx, hag, encN, encEd, encG] at h); all_goals try omega) | (refine Ru.go ?_; intro K hK; simp [go_sem, hz0, hzl, hzl2, hzx, hag, encN, encEd, encG]; (try simp (disch := omega) only [z_h, z_i, eq_self, true_and]); (first | apply hK | refine ⟨by first | omega | (simp [z_f, z_g, hz0, hzl, hzl2, hzx, hag, encN, encEd, encG]; first | done | omega), ?_⟩ | refine ⟨hK _ ?_, fun h => ?_⟩ | refine ⟨?_, ?_⟩); all_goals ((try apply hK); clear hK K))
           simp [go_sem]
         | false =>
           refine z_l [(8, .sv (.one (.ow 1 ((z :: zs).map encN)))), (7, .sv (.one (.int .i64 s))), (6, .sv (.one (.bool false))), (3, .sv (.one (.bx (encG g)))), (2, .sv (.one (.int .u8 to))), (1, .sv (.one (.int .u8 st)))] ?_ ?_
           ·skip
            repeat' first | refine St.go ?_ | ((with_reducible refine z_Y (t := ?_) ?hc (fun h => ?_) (fun h => ?_)); (case hc => rfl); all_goals (try simp [go_sem, hz0, hzl, hzl2, hzx, hag, encN, encEd, encG] at h); all_goals try omega) | (refine Ru.go ?_; intro K hK; simp [go_sem, hz0, hzl, hzl2, hzx, hag, encN, encEd, encG]; (try simp (disch := omega) only [z_h, z_i, eq_self, true_and]); (first | apply hK | refine ⟨by first | omega | (simp [z_f, z_g, hz0, hzl, hzl2, hzx, hag, encN, encEd, encG]; first | done | omega), ?_⟩ | refine ⟨hK _ ?_, fun h => ?_⟩ | refine ⟨?_, ?_⟩); all_goals ((try apply hK); clear hK K))
            refine z_m ?_
            first | (simp [go_sem, encG, encN]; done) | (simp [go_sem, encG, encN]; exact of_eq_true (le_self _))
           have hr0 := n7 x0 (List.mem_of_getElem? hx0)
           have hrr : 0 < g.roles.length := by
            simp only [okEdge, Bool.and_eq_true, decide_eq_true_eq] at hr0
            omega
           have hr1 : ¬ (g.roles.length : Int) = 0 := by omega
           have hr2 : ¬ g.roles.length = 0 := by omega
           obtain ⟨p, hp⟩ : ∃ p, to.tmod (g.roles.length : Int) = p := ⟨_, rfl⟩
           have hpr : 0 <= p /\ p < g.roles.length := by
            rw [<- hp]
            exact ⟨Int.tmod_nonneg _ hto.1, Int.tmod_lt_of_pos _ (by omega)⟩
           refine z_l [(10, .sv (.one (.int .i64 p))), (9, .sv (.one (.int .i64 x0.act.from_))), (7, .sv (.one (.int .i64 s))), (6, .sv (.one (.bool false))), (3, .sv (.one (.bx (encG g)))), (2, .sv (.one (.int .u8 to))), (1, .sv (.one (.int .u8 st)))] ?_ ?_
           ·skip
            repeat' first | refine St.go ?_ | ((with_reducible refine z_Y (t := ?_) ?hc (fun h => ?_) (fun h => ?_)); (case hc => rfl); all_goals (try simp [go_sem, hz0, hzl, hzl2, hzx, hr1, hr2, hp, encN, encEd, encG] at h); all_goals try omega) | (refine Ru.go ?_; intro K hK; simp [go_sem, hz0, hzl, hzl2, hzx, hr1, hr2, hp, encN, encEd, encG]; (try simp (disch := omega) only [z_h, z_i, eq_self, true_and]); (first | apply hK | refine ⟨by first | omega | (simp [z_f, z_g, hz0, hzl, hzl2, hzx, hr1, hr2, hp, encN, encEd, encG]; first | done | omega), ?_⟩ | refine ⟨hK _ ?_, fun h => ?_⟩ | refine ⟨?_, ?_⟩); all_goals ((try apply hK); clear hK K))
            refine z_m ?_
            first | (simp [go_sem, encG]; done) | (simp [go_sem, encG]; exact of_eq_true (le_self _))
           by_cases hfp : x0.act.from_ = p
           ·skip
            repeat' first | refine St.go ?_ | ((with_reducible refine z_Y (t := ?_) ?hc (fun h => ?_) (fun h => ?_)); (case hc => rfl); all_goals (try simp [go_sem, hfp, encG] at h); all_goals try omega) | (refine Ru.go ?_; intro K hK; simp [go_sem, hfp, encG]; (try simp (disch := omega) only [z_h, z_i, eq_self, true_and]); (first | apply hK | refine ⟨by first | omega | (simp [z_f, z_g, hfp, encG]; first | done | omega), ?_⟩ | refine ⟨hK _ ?_, fun h => ?_⟩ | refine ⟨?_, ?_⟩); all_goals ((try apply hK); clear hK K))
            simp [go_sem]
           refine z_l [(10, .sv (.one (.int .i64 p))), (9, .sv (.one (.int .i64 x0.act.from_))), (7, .sv (.one (.int .i64 s))), (6, .sv (.one (.bool false))), (3, .sv (.one (.bx (encG g)))), (2, .sv (.one (.int .u8 to))), (1, .sv (.one (.int .u8 st)))] ?_ ?_
           ·skip
            repeat' first | refine St.go ?_ | ((with_reducible refine z_Y (t := ?_) ?hc (fun h => ?_) (fun h => ?_)); (case hc => rfl); all_goals (try simp [go_sem, hfp, encG] at h); all_goals try omega) | (refine Ru.go ?_; intro K hK; simp [go_sem, hfp, encG]; (try simp (disch := omega) only [z_h, z_i, eq_self, true_and]); (first | apply hK | refine ⟨by first | omega | (simp [z_f, z_g, hfp, encG]; first | done | omega), ?_⟩ | refine ⟨hK _ ?_, fun h => ?_⟩ | refine ⟨?_, ?_⟩); all_goals ((try apply hK); clear hK K))
            refine z_m ?_
            first | (simp [go_sem, encG]; done) | (simp [go_sem, encG]; exact of_eq_true (le_self _))
           refine z_l [(11, .sv (.one (.int .i64 0))), (10, .sv (.one (.int .i64 p))), (9, .sv (.one (.int .i64 x0.act.from_))), (7, .sv (.one (.int .i64 s))), (6, .sv (.one (.bool false))), (3, .sv (.one (.bx (encG g)))), (2, .sv (.one (.int .u8 to))), (1, .sv (.one (.int .u8 st)))] ?_ ?_
           ·skip
            repeat' first | refine St.go ?_ | ((with_reducible refine z_Y (t := ?_) ?hc (fun h => ?_) (fun h => ?_)); (case hc => rfl); all_goals (try simp [go_sem, encG] at h); all_goals try omega) | (refine Ru.go ?_; intro K hK; simp [go_sem, encG]; (try simp (disch := omega) only [z_h, z_i, eq_self, true_and]); (first | apply hK | refine ⟨by first | omega | (simp [z_f, z_g, encG]; first | done | omega), ?_⟩ | refine ⟨hK _ ?_, fun h => ?_⟩ | refine ⟨?_, ?_⟩); all_goals ((try apply hK); clear hK K))
            refine z_m ?_
            first | (simp [go_sem, encG]; done) | (simp [go_sem, encG]; exact of_eq_true (le_self _))
           refine z_l [(11, .sv (.one (.int .i64 ((allF g.decls).length : Nat)))), (10, .sv (.one (.int .i64 p))), (9, .sv (.one (.int .i64 x0.act.from_))), (7, .sv (.one (.int .i64 s))), (6, .sv (.one (.bool false))), (3, .sv (.one (.bx (encG g)))), (2, .sv (.one (.int .u8 to))), (1, .sv (.one (.int .u8 st)))] ?_ ?_
           ·skip
            repeat' first | refine St.go ?_ | ((with_reducible refine z_Y (t := ?_) ?hc (fun h => ?_) (fun h => ?_)); (case hc => rfl); all_goals (try simp [go_sem, encG] at h); all_goals try omega) | (refine Ru.go ?_; intro K hK; simp [go_sem, encG]; (try simp (disch := omega) only [z_h, z_i, eq_self, true_and]); (first | apply hK | refine ⟨by first | omega | (simp [z_f, z_g, encG]; first | done | omega), ?_⟩ | refine ⟨hK _ ?_, fun h => ?_⟩ | refine ⟨?_, ?_⟩); all_goals ((try apply hK); clear hK K))
            refine z_k (fun n e => ∃ k : Nat, k + n = g.decls.length /\ e = [(84, .sv (.one (.int .i64 k))), (83, .sv (.one (.int .i64 g.decls.length))), (82, .sv (.one (.sl (g.decls.map encD)))), (11, .sv (.one (.int .i64 ((allF (g.decls.take k)).length : Nat)))), (10, .sv (.one (.int .i64 p))), (9, .sv (.one (.int .i64 x0.act.from_))), (7, .sv (.one (.int .i64 s))), (6, .sv (.one (.bool false))), (3, .sv (.one (.bx (encG g)))), (2, .sv (.one (.int .u8 to))), (1, .sv (.one (.int .u8 st)))]) g.decls.length _ ⟨0, by simp, rfl⟩ (by simp [go_sem, encG, allF]) ?_
            rintro n e ⟨k, hk, rfl⟩
            by_cases hlt : k < g.decls.length
            ·obtain ⟨d, hd⟩ : ∃ d, g.decls[k] = d := ⟨_, rfl⟩
             have hsc : (allF (g.decls.take (k + 1))).length = (allF (g.decls.take k)).length + d.fields.length := by
              rw [List.take_succ_eq_append_getElem hlt, hd]
              simp [allF]
             have hfl := sg.fields d (hd ▸ List.getElem_mem hlt)
             have hal : (allF (g.decls.take k)).length <= 1000000000 := by
              have h1 : (allF (g.decls.take k)).length <= (allF g.decls).length := by
               have e : allF g.decls = allF (g.decls.take k) ++ allF (g.decls.drop k) := by
                unfold allF
                rw [<- List.flatMap_append, List.take_append_drop]
               rw [e, List.length_append]
               omega
              have h2 := (valid_num hv).2
              unfold validD at h2
              simp only [Bool.and_eq_true, decide_eq_true_eq] at h2
              omega
             obtain ⟨al, hal2⟩ : ∃ al, (allF (g.decls.take k)).length = al := ⟨_, rfl⟩
             rw [hal2] at hsc hal
             rw [hal2]
             repeat' first | refine St.go ?_ | ((with_reducible refine z_Y (t := ?_) ?hc (fun h => ?_) (fun h => ?_)); (case hc => rfl); all_goals (try simp [go_sem, hlt, hd, encD, encG] at h); all_goals try omega) | (refine Ru.go ?_; intro K hK; simp [go_sem, hlt, hd, encD, encG]; (try simp (disch := omega) only [z_h, z_i, eq_self, true_and]); (first | apply hK | refine ⟨by first | omega | (simp [z_f, z_g, hlt, hd, encD, encG]; first | done | omega), ?_⟩ | refine ⟨hK _ ?_, fun h => ?_⟩ | refine ⟨?_, ?_⟩); all_goals ((try apply hK); clear hK K))
             refine z_j (n - 1) _ (by omega) ⟨k + 1, by omega, rfl⟩ ?_
             simp [go_sem, encG, hsc]
            ·have hkl : g.decls.take k = g.decls := List.take_of_length_le (by omega)
             rw [hkl]
             repeat' first | refine St.go ?_ | ((with_reducible refine z_Y (t := ?_) ?hc (fun h => ?_) (fun h => ?_)); (case hc => rfl); all_goals (try simp [go_sem, hlt, encG] at h); all_goals try omega) | (refine Ru.go ?_; intro K hK; simp [go_sem, hlt, encG]; (try simp (disch := omega) only [z_h, z_i, eq_self, true_and]); (first | apply hK | refine ⟨by first | omega | (simp [z_f, z_g, hlt, encG]; first | done | omega), ?_⟩ | refine ⟨hK _ ?_, fun h => ?_⟩ | refine ⟨?_, ?_⟩); all_goals ((try apply hK); clear hK K))
             refine z_m ?_
             simp [go_sem, encG]
           refine z_l [(14, .sv (.one (.bx [.str g.name, .sl (g.roles.map encS), .sl (g.decls.map encD), .int .i64 g.states, .int .i64 g.start, .int .i64 g.end_, .sl (g.edges.map encEd), .sl (g.timeouts.map encT)]))), (11, .sv (.one (.int .i64 ((allF g.decls).length : Nat)))), (10, .sv (.one (.int .i64 p))), (9, .sv (.one (.int .i64 x0.act.from_))), (7, .sv (.one (.int .i64 s))), (6, .sv (.one (.bool false))), (3, .sv (.one (.bx (encG g)))), (2, .sv (.one (.int .u8 to))), (1, .sv (.one (.int .u8 st)))] ?_ ?_
           ·skip
            repeat' first | refine St.go ?_ | ((with_reducible refine z_Y (t := ?_) ?hc (fun h => ?_) (fun h => ?_)); (case hc => rfl); all_goals (try simp [go_sem, encG] at h); all_goals try omega) | (refine Ru.go ?_; intro K hK; simp [go_sem, encG]; (try simp (disch := omega) only [z_h, z_i, eq_self, true_and]); (first | apply hK | refine ⟨by first | omega | (simp [z_f, z_g, encG]; first | done | omega), ?_⟩ | refine ⟨hK _ ?_, fun h => ?_⟩ | refine ⟨?_, ?_⟩); all_goals ((try apply hK); clear hK K))
            refine z_m ?_
            first | (simp [go_sem, encG]; done) | (simp [go_sem, encG]; exact of_eq_true (le_self _))
           have hap1 : z_f 5 96 [] (g.decls.map encD) := by
            refine ⟨?_, ?_, by omega, ?_, ?_⟩
            ·intro e he
             obtain ⟨d, _, rfl⟩ := List.mem_map.1 he
             rfl
            ·intro e he
             obtain ⟨d, _, rfl⟩ := List.mem_map.1 he
             rfl
            ·have := sg.decls
             simp only [List.length_map, List.length_nil, maxLen]; omega
            ·have := sg.decls
             simp only [List.length_map, List.length_nil]; omega
           have hap2 : z_f 5 96 (g.decls.map encD) [rawD (moreD g)] := by
            have := sg.decls
            refine ⟨?_, ?_, by omega, ?_, ?_⟩
            ·intro e he; rw [List.mem_singleton.1 he]; rfl
            ·intro e he; rw [List.mem_singleton.1 he]; rfl
            ·simp only [List.length_map, List.length_singleton, maxLen]; omega
            ·simp only [List.length_map, List.length_singleton]; omega
           have hRD : rawD (moreD g) = [.str ⟨#[122, 122, 95, 109, 111, 114, 101]⟩, .nil, .int .i64 ((allF g.decls).length : Nat), .nil, .nil] := rfl
           rw [hRD] at hap2
           refine z_l [(14, .sv (.one (.bx [.str g.name, .sl (g.roles.map encS), .ow 5 (g.decls.map encD ++ [rawD (moreD g)]), .int .i64 g.states, .int .i64 g.start, .int .i64 g.end_, .sl (g.edges.map encEd), .sl (g.timeouts.map encT)]))), (11, .sv (.one (.int .i64 ((allF g.decls).length : Nat)))), (10, .sv (.one (.int .i64 p))), (9, .sv (.one (.int .i64 x0.act.from_))), (7, .sv (.one (.int .i64 s))), (6, .sv (.one (.bool false))), (3, .sv (.one (.bx (encG g)))), (2, .sv (.one (.int .u8 to))), (1, .sv (.one (.int .u8 st)))] ?_ ?_
           ·rw [hRD]
            repeat' first | refine St.go ?_ | ((with_reducible refine z_Y (t := ?_) ?hc (fun h => ?_) (fun h => ?_)); (case hc => rfl); all_goals (try simp [go_sem, hap1, hap2, encG] at h); all_goals try omega) | (refine Ru.go ?_; intro K hK; simp [go_sem, hap1, hap2, encG]; (try simp (disch := omega) only [z_h, z_i, eq_self, true_and]); (first | apply hK | refine ⟨by first | omega | (simp [z_f, z_g, hap1, hap2, encG]; first | done | omega), ?_⟩ | refine ⟨hK _ ?_, fun h => ?_⟩ | refine ⟨?_, ?_⟩); all_goals ((try apply hK); clear hK K))
            refine z_m ?_
            first | (simp [go_sem, encG]; done) | (simp [go_sem, encG]; exact of_eq_true (le_self _))
           have hed := sg.edges
           have hap3 : z_f 6 48 [] (g.edges.map encEd) := by
            refine ⟨?_, ?_, by omega, ?_, ?_⟩
            ·intro e he
             obtain ⟨d, _, rfl⟩ := List.mem_map.1 he
             rfl
            ·intro e he
             obtain ⟨d, _, rfl⟩ := List.mem_map.1 he
             rfl
            ·simp only [List.length_map, List.length_nil, maxLen]; omega
            ·simp only [List.length_map, List.length_nil]; omega
           have hap4 : z_f 6 48 (g.edges.map encEd) [encEd (moreE g s x0.act.from_ p)] := by
            refine ⟨?_, ?_, by omega, ?_, ?_⟩
            ·intro e he; rw [List.mem_singleton.1 he]; rfl
            ·intro e he; rw [List.mem_singleton.1 he]; rfl
            ·simp only [List.length_map, List.length_singleton, maxLen]; omega
            ·simp only [List.length_map, List.length_singleton]; omega
           have hRE : encEd (moreE g s x0.act.from_ p) = [.int .i64 s, .int .i64 x0.act.from_, .int .i64 p, .int .i64 (g.decls.length : Nat), .int .i64 g.end_, .bool false] := rfl
           rw [hRE] at hap4
           refine z_l [(14, .sv (.one (.bx [.str g.name, .sl (g.roles.map encS), .sl (g.decls.map encD ++ [rawD (moreD g)]), .int .i64 g.states, .int .i64 g.start, .int .i64 g.end_, .sl (g.edges.map encEd ++ [encEd (moreE g s x0.act.from_ p)]), .sl (g.timeouts.map encT)]))), (10, .sv (.one (.int .i64 p))), (9, .sv (.one (.int .i64 x0.act.from_))), (7, .sv (.one (.int .i64 s))), (6, .sv (.one (.bool false))), (3, .sv (.one (.bx (encG g)))), (2, .sv (.one (.int .u8 to))), (1, .sv (.one (.int .u8 st)))] ?_ ?_
           ·rw [hRE]
            repeat' first | refine St.go ?_ | ((with_reducible refine z_Y (t := ?_) ?hc (fun h => ?_) (fun h => ?_)); (case hc => rfl); all_goals (try simp [go_sem, hap3, hap4, encG] at h); all_goals try omega) | (refine Ru.go ?_; intro K hK; simp [go_sem, hap3, hap4, encG]; (try simp (disch := omega) only [z_h, z_i, eq_self, true_and]); (first | apply hK | refine ⟨by first | omega | (simp [z_f, z_g, hap3, hap4, encG]; first | done | omega), ?_⟩ | refine ⟨hK _ ?_, fun h => ?_⟩ | refine ⟨?_, ?_⟩); all_goals ((try apply hK); clear hK K))
            refine cutQ_frz 14 ?_
            simp [go_sem, encG, hRD, frzLL_append, frz_encD, frz_encEd]
            try exact of_eq_true (le_self _)
           have hM : MoreOk g s x0.act.from_ p x0 := by
            have h1 := fa
            simp only [few31, fewG, Bool.and_eq_true, decide_eq_true_eq] at h1
            refine ⟨hv, by omega, h1.1.1.1.1.2, ?_, List.mem_of_getElem? hx0, hxs, hag, rfl, hpr.1, hpr.2, hfp⟩
            rw [<- firstB_any, hlz]
            simpa using hlz0
           obtain ⟨m1, m2, m3, m4⟩ := more_law hM
           have k18 := less2 (f18 h109 g (moreG g s x0.act.from_ p) sg (small_more hM sg))
           rw [m1] at k18
           have k29 := less1 (f29 h109 (moreG g s x0.act.from_ p) (small_more hM sg))
           rw [valid_more hM] at k29
           generalize cmpTab g (moreG g s x0.act.from_ p) = T at *
           simp only [encG, rawMore, encTab, List.cons_append, List.nil_append] at k18 k29
           refine z_l [(16, .sv (.one (.int .i64 0))), (15, .sv (.one (.bx (encTab T)))), (14, .sv (.one (.bx [.str g.name, .sl (g.roles.map encS), .sl (g.decls.map encD ++ [rawD (moreD g)]), .int .i64 g.states, .int .i64 g.start, .int .i64 g.end_, .sl (g.edges.map encEd ++ [encEd (moreE g s x0.act.from_ p)]), .sl (g.timeouts.map encT)]))), (10, .sv (.one (.int .i64 p))), (9, .sv (.one (.int .i64 x0.act.from_))), (7, .sv (.one (.int .i64 s))), (6, .sv (.one (.bool false))), (3, .sv (.one (.bx (encG g)))), (2, .sv (.one (.int .u8 to))), (1, .sv (.one (.int .u8 st)))] ?_ ?_
           ·skip
            repeat' first | refine St.go ?_ | ((with_reducible refine z_Y (t := ?_) ?hc (fun h => ?_) (fun h => ?_)); (case hc => rfl); all_goals (try simp [go_sem, encG] at h); all_goals try omega) | (refine Ru.go ?_; intro K hK; simp [go_sem, encG]; (try simp (disch := omega) only [z_h, z_i, eq_self, true_and]); (first | apply hK | ((try refine .inl ?_); refine ⟨_, by (try intro hc); (repeat' first | exact k18 | exact hc | refine And.intro ?_ ?_ | simp [go_sem, encG]); first | done | omega, ?_⟩; first | apply hK | (refine ⟨by simp [go_sem, encG], ?_⟩; first | apply hK | refine ⟨by simp [go_sem, encG], hK _ _ ?_⟩)) | refine ⟨.one (.one (.bool false)), by simp [go_sem, encG], hK _ _ ?_⟩ | refine ⟨by first | omega | (simp [z_f, z_g, encG]; first | done | omega), ?_⟩ | refine ⟨hK _ ?_, fun h => ?_⟩ | refine ⟨?_, ?_⟩); all_goals ((try apply hK); clear hK K))
            refine z_m ?_
            first | (simp [go_sem, encG, encTab]; done) | (simp [go_sem, encG, encTab]; exact of_eq_true (le_self _))
           refine z_l [(15, .sv (.one (.bx (encTab T)))), (14, .sv (.one (.bx [.str g.name, .sl (g.roles.map encS), .sl (g.decls.map encD ++ [rawD (moreD g)]), .int .i64 g.states, .int .i64 g.start, .int .i64 g.end_, .sl (g.edges.map encEd ++ [encEd (moreE g s x0.act.from_ p)]), .sl (g.timeouts.map encT)]))), (10, .sv (.one (.int .i64 p))), (9, .sv (.one (.int .i64 x0.act.from_))), (7, .sv (.one (.int .i64 s))), (6, .sv (.one (.bool false))), (3, .sv (.one (.bx (encG g)))), (2, .sv (.one (.int .u8 to))), (1, .sv (.one (.int .u8 st)))] ?_ ?_
           ·skip
            repeat' first | refine St.go ?_ | ((with_reducible refine z_Y (t := ?_) ?hc (fun h => ?_) (fun h => ?_)); (case hc => rfl); all_goals (try simp [go_sem, encG] at h); all_goals try omega) | (refine Ru.go ?_; intro K hK; simp [go_sem, encG]; (try simp (disch := omega) only [z_h, z_i, eq_self, true_and]); (first | apply hK | ((try refine .inl ?_); refine ⟨_, by (try intro hc); (repeat' first | exact k29 | exact hc | refine And.intro ?_ ?_ | simp [go_sem, encG]); first | done | omega, ?_⟩; first | apply hK | (refine ⟨by simp [go_sem, encG], ?_⟩; first | apply hK | refine ⟨by simp [go_sem, encG], hK _ _ ?_⟩)) | refine ⟨.one (.one (.bool false)), by simp [go_sem, encG], hK _ _ ?_⟩ | refine ⟨by first | omega | (simp [z_f, z_g, encG]; first | done | omega), ?_⟩ | refine ⟨hK _ ?_, fun h => ?_⟩ | refine ⟨?_, ?_⟩); all_goals ((try apply hK); clear hK K))
            refine z_m ?_
            first | (simp [go_sem, encG, encTab]; done) | (simp [go_sem, encG, encTab]; exact of_eq_true (le_self _))
           refine z_l [(15, .sv (.one (.bx (encTab T)))), (10, .sv (.one (.int .i64 p))), (9, .sv (.one (.int .i64 x0.act.from_))), (7, .sv (.one (.int .i64 s))), (6, .sv (.one (.bool false))), (3, .sv (.one (.bx (encG g)))), (2, .sv (.one (.int .u8 to))), (1, .sv (.one (.int .u8 st)))] ?_ ?_
           ·skip
            repeat' first | refine St.go ?_ | ((with_reducible refine z_Y (t := ?_) ?hc (fun h => ?_) (fun h => ?_)); (case hc => rfl); all_goals (try simp [go_sem, encG, encTab] at h); all_goals try omega) | (refine Ru.go ?_; intro K hK; simp [go_sem, encG, encTab]; (try simp (disch := omega) only [z_h, z_i, eq_self, true_and]); (first | apply hK | refine ⟨by first | omega | (simp [z_f, z_g, encG, encTab]; first | done | omega), ?_⟩ | refine ⟨hK _ ?_, fun h => ?_⟩ | refine ⟨?_, ?_⟩); all_goals ((try apply hK); clear hK K))
            refine z_k (fun n e => ∃ k : Nat, k + n = T.pairs.length /\ e = [(137, .sv (.one (.int .i64 k))), (136, .sv (.one (.int .i64 T.pairs.length))), (15, .sv (.one (.bx (encTab T)))), (10, .sv (.one (.int .i64 p))), (9, .sv (.one (.int .i64 x0.act.from_))), (7, .sv (.one (.int .i64 s))), (6, .sv (.one (.bool false))), (3, .sv (.one (.bx (encG g)))), (2, .sv (.one (.int .u8 to))), (1, .sv (.one (.int .u8 st)))]) T.pairs.length _ ⟨0, by simp, rfl⟩ (by simp [go_sem, encG, encTab]) ?_
            rintro n e ⟨k, hk, rfl⟩
            by_cases hlt : k < T.pairs.length
            ·have hlg : k < T.good.length := by omega
             have hgk := m4 k hlg
             have hpl : T.pairs.length <= 1000 := by omega
             repeat' first | refine St.go ?_ | ((with_reducible refine z_Y (t := ?_) ?hc (fun h => ?_) (fun h => ?_)); (case hc => rfl); all_goals (try simp [go_sem, hlt, hlg, hgk, encBl, encTab, encG] at h); all_goals try omega) | (refine Ru.go ?_; intro K hK; simp [go_sem, hlt, hlg, hgk, encBl, encTab, encG]; (try simp (disch := omega) only [z_h, z_i, eq_self, true_and]); (first | apply hK | refine ⟨by first | omega | (simp [z_f, z_g, hlt, hlg, hgk, encBl, encTab, encG]; first | done | omega), ?_⟩ | refine ⟨hK _ ?_, fun h => ?_⟩ | refine ⟨?_, ?_⟩); all_goals ((try apply hK); clear hK K))
             refine z_j (n - 1) _ (by omega) ⟨k + 1, by omega, rfl⟩ ?_
             simp [go_sem, encTab, encG]
            ·skip
             repeat' first | refine St.go ?_ | ((with_reducible refine z_Y (t := ?_) ?hc (fun h => ?_) (fun h => ?_)); (case hc => rfl); all_goals (try simp [go_sem, hlt, encG, encTab] at h); all_goals try omega) | (refine Ru.go ?_; intro K hK; simp [go_sem, hlt, encG, encTab]; (try simp (disch := omega) only [z_h, z_i, eq_self, true_and]); (first | apply hK | refine ⟨by first | omega | (simp [z_f, z_g, hlt, encG, encTab]; first | done | omega), ?_⟩ | refine ⟨hK _ ?_, fun h => ?_⟩ | refine ⟨?_, ?_⟩); all_goals ((try apply hK); clear hK K))
             refine z_m ?_
             simp [go_sem, encG, encTab]
           repeat' first | refine St.go ?_ | ((with_reducible refine z_Y (t := ?_) ?hc (fun h => ?_) (fun h => ?_)); (case hc => rfl); all_goals (try simp [go_sem, m2, encG, encTab] at h); all_goals try omega) | (refine Ru.go ?_; intro K hK; simp [go_sem, m2, encG, encTab]; (try simp (disch := omega) only [z_h, z_i, eq_self, true_and]); (first | apply hK | refine ⟨by first | omega | (simp [z_f, z_g, m2, encG, encTab]; first | done | omega), ?_⟩ | refine ⟨hK _ ?_, fun h => ?_⟩ | refine ⟨?_, ?_⟩); all_goals ((try apply hK); clear hK K))
           simp [go_sem, m2]
end Go.Av

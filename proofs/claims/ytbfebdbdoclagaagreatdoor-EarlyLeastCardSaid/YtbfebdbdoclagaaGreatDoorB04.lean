/- Part of a proof. -/
import Derived.Shelf.SlSortCmp.NoneTotal
import Derived.Shelf.Sort.Plain
import Derived.Shelf.SlGeneric
import Derived.Test.YtbfebdbdoclagaaGreatDoorProg
import Derived.Test.YtbfebdbdoclagaaGreatDoorAvR
import Derived.Test.YtbfebdbdoclagaaGreatDoorB02
import Derived.Test.YtbfebdbdoclagaaGreatDoorB03
import Derived.Test.YtbfebdbdoclagaaGreatDoorAvSI
import Derived.Test.YtbfebdbdoclagaaGreatDoorB01
set_option linter.unusedVariables false
set_option linter.unusedSimpArgs false
set_option maxHeartbeats 64000000
set_option maxRecDepth 8000
namespace Go.Proofs
open Go.Shelf
def Tryz.sort43_ren : Go.Shelf.Ren := ⟨fun | 6 => 43 | 15 => 50 | 14 => 68 | 28 => 77 | 29 => 78 | 20 => 99 | 21 => 100 | 22 => 101 | 23 => 102 | 24 => 103 | 25 => 104 | 26 => 105 | 27 => 106 | 46 => 128 | 47 => 108 | 48 => 109 | 49 => 129 | 50 => 130 | 57 => 149 | n => n, fun | 22 => 24 | 24 => 44 | 25 => 100 | 3 => 3 | 39 => 111 | 0 => 0 | 53 => 132 | 55 => 134 | 4 => 4 | 46 => 126 | 45 => 125 | 50 => 87 | 5 => 5 | 9 => 9 | 66 => 155 | 70 => 159 | 76 => 178 | 77 => 179 | n => n, fun | n => n⟩
theorem Tryz.sort43 : Go.Proofs.SlLaysF0.n6 Tryz.prog Tryz.sort43_ren := {
 mixed := by kernel_rfl
 f6 := ⟨Tryz.f43.name, by decide, Tryz.func43.trans (congrArg some (by kernel_rfl))⟩
 f14 := ⟨Tryz.f68.name, by decide, Tryz.func68.trans (congrArg some (by kernel_rfl))⟩
 f15 := Tryz.func50.trans (congrArg some (by kernel_rfl))
 f20 := ⟨Tryz.f99.name, by decide, Tryz.func99.trans (congrArg some (by kernel_rfl))⟩
 f21 := ⟨Tryz.f100.name, by decide, Tryz.func100.trans (congrArg some (by kernel_rfl))⟩
 f22 := ⟨Tryz.f101.name, by decide, Tryz.func101.trans (congrArg some (by kernel_rfl))⟩
 f23 := ⟨Tryz.f102.name, by decide, Tryz.func102.trans (congrArg some (by kernel_rfl))⟩
 f24 := ⟨Tryz.f103.name, by decide, Tryz.func103.trans (congrArg some (by kernel_rfl))⟩
 f25 := ⟨Tryz.f104.name, by decide, Tryz.func104.trans (congrArg some (by kernel_rfl))⟩
 f26 := ⟨Tryz.f105.name, by decide, Tryz.func105.trans (congrArg some (by kernel_rfl))⟩
 f27 := ⟨Tryz.f106.name, by decide, Tryz.func106.trans (congrArg some (by kernel_rfl))⟩
 f28 := Tryz.func77.trans (congrArg some (by kernel_rfl))
 f29 := Tryz.func78.trans (congrArg some (by kernel_rfl))
 f46 := ⟨Tryz.f128.name, by decide, Tryz.func128.trans (congrArg some (by kernel_rfl))⟩
 f47 := Tryz.func108.trans (congrArg some (by kernel_rfl))
 f48 := Tryz.func109.trans (congrArg some (by kernel_rfl))
 f49 := ⟨Tryz.f129.name, by decide, Tryz.func129.trans (congrArg some (by kernel_rfl))⟩
 f50 := ⟨Tryz.f130.name, by decide, Tryz.func130.trans (congrArg some (by kernel_rfl))⟩
 f57 := ⟨Tryz.f149.name, by decide, Tryz.func149.trans (congrArg some (by kernel_rfl))⟩
 t0 := Tryz.underlying0
 a0 := Tryz.isAgg0
 z0 := Tryz.sizeOf0
 v0 := Tryz.zeroValue0
 t3 := Tryz.underlying3
 a3 := Tryz.isAgg3
 z3 := Tryz.sizeOf3
 v3 := Tryz.zeroValue3
 t4 := Tryz.underlying4
 a4 := Tryz.isAgg4
 z4 := Tryz.sizeOf4
 v4 := Tryz.zeroValue4
 t5 := Tryz.underlying5
 a5 := Tryz.isAgg5
 z5 := Tryz.sizeOf5
 v5 := Tryz.zeroValue5
 t9 := Tryz.underlying9
 a9 := Tryz.isAgg9
 z9 := Tryz.sizeOf9
 v9 := Tryz.zeroValue9
 t22 := Tryz.underlying24
 a22 := Tryz.isAgg24
 z22 := Tryz.sizeOf24
 v22 := Tryz.zeroValue24
 t25 := Tryz.underlying100
 a25 := Tryz.isAgg100
 z25 := Tryz.sizeOf100
 v25 := Tryz.zeroValue100
 t39 := Tryz.underlying111
 a39 := Tryz.isAgg111
 z39 := Tryz.sizeOf111
 v39 := Tryz.zeroValue111
 t45 := Tryz.underlying125
 a45 := Tryz.isAgg125
 z45 := Tryz.sizeOf125
 v45 := Tryz.zeroValue125
 t46 := Tryz.underlying126
 a46 := Tryz.isAgg126
 z46 := Tryz.sizeOf126
 v46 := Tryz.zeroValue126
 t50 := Tryz.underlying87
 a50 := Tryz.isAgg87
 z50 := Tryz.sizeOf87
 v50 := Tryz.zeroValue87
 t53 := Tryz.underlying132
 a53 := Tryz.isAgg132
 z53 := Tryz.sizeOf132
 v53 := Tryz.zeroValue132
 t55 := Tryz.underlying134
 a55 := Tryz.isAgg134
 z55 := Tryz.sizeOf134
 v55 := Tryz.zeroValue134
 t66 := Tryz.underlying155
 a66 := Tryz.isAgg155
 z66 := Tryz.sizeOf155
 v66 := Tryz.zeroValue155
 t70 := Tryz.underlying159
 a70 := Tryz.isAgg159
 z70 := Tryz.sizeOf159
 v70 := Tryz.zeroValue159
 t76 := Tryz.underlying178
 a76 := Tryz.isAgg178
 z76 := Tryz.sizeOf178
 v76 := Tryz.zeroValue178
 t77 := Tryz.underlying179
 a77 := Tryz.isAgg179
 z77 := Tryz.sizeOf179
 v77 := Tryz.zeroValue179 }
def Tryz.sort26_ren : Go.Shelf.Ren := ⟨fun | 6 => 26 | 15 => 50 | 14 => 49 | 28 => 77 | 29 => 78 | 20 => 69 | 21 => 70 | 22 => 71 | 23 => 72 | 24 => 73 | 25 => 74 | 26 => 75 | 27 => 76 | 46 => 107 | 47 => 108 | 48 => 109 | 49 => 110 | 50 => 111 | 57 => 131 | n => n, fun | 22 => 30 | 24 => 39 | 25 => 72 | 3 => 3 | 39 => 111 | 0 => 0 | 53 => 132 | 55 => 134 | 4 => 4 | 46 => 126 | 45 => 125 | 50 => 87 | 5 => 5 | 9 => 9 | 66 => 155 | 70 => 159 | 76 => 178 | 77 => 179 | n => n, fun | n => n⟩
theorem Tryz.sort26 : Go.Proofs.SlLaysF0.n6 Tryz.prog Tryz.sort26_ren := {
 mixed := by kernel_rfl
 f6 := ⟨Tryz.f26.name, by decide, Tryz.func26.trans (congrArg some (by kernel_rfl))⟩
 f14 := ⟨Tryz.f49.name, by decide, Tryz.func49.trans (congrArg some (by kernel_rfl))⟩
 f15 := Tryz.func50.trans (congrArg some (by kernel_rfl))
 f20 := ⟨Tryz.f69.name, by decide, Tryz.func69.trans (congrArg some (by kernel_rfl))⟩
 f21 := ⟨Tryz.f70.name, by decide, Tryz.func70.trans (congrArg some (by kernel_rfl))⟩
 f22 := ⟨Tryz.f71.name, by decide, Tryz.func71.trans (congrArg some (by kernel_rfl))⟩
 f23 := ⟨Tryz.f72.name, by decide, Tryz.func72.trans (congrArg some (by kernel_rfl))⟩
 f24 := ⟨Tryz.f73.name, by decide, Tryz.func73.trans (congrArg some (by kernel_rfl))⟩
 f25 := ⟨Tryz.f74.name, by decide, Tryz.func74.trans (congrArg some (by kernel_rfl))⟩
 f26 := ⟨Tryz.f75.name, by decide, Tryz.func75.trans (congrArg some (by kernel_rfl))⟩
 f27 := ⟨Tryz.f76.name, by decide, Tryz.func76.trans (congrArg some (by kernel_rfl))⟩
 f28 := Tryz.func77.trans (congrArg some (by kernel_rfl))
 f29 := Tryz.func78.trans (congrArg some (by kernel_rfl))
 f46 := ⟨Tryz.f107.name, by decide, Tryz.func107.trans (congrArg some (by kernel_rfl))⟩
 f47 := Tryz.func108.trans (congrArg some (by kernel_rfl))
 f48 := Tryz.func109.trans (congrArg some (by kernel_rfl))
 f49 := ⟨Tryz.f110.name, by decide, Tryz.func110.trans (congrArg some (by kernel_rfl))⟩
 f50 := ⟨Tryz.f111.name, by decide, Tryz.func111.trans (congrArg some (by kernel_rfl))⟩
 f57 := ⟨Tryz.f131.name, by decide, Tryz.func131.trans (congrArg some (by kernel_rfl))⟩
 t0 := Tryz.underlying0
 a0 := Tryz.isAgg0
 z0 := Tryz.sizeOf0
 v0 := Tryz.zeroValue0
 t3 := Tryz.underlying3
 a3 := Tryz.isAgg3
 z3 := Tryz.sizeOf3
 v3 := Tryz.zeroValue3
 t4 := Tryz.underlying4
 a4 := Tryz.isAgg4
 z4 := Tryz.sizeOf4
 v4 := Tryz.zeroValue4
 t5 := Tryz.underlying5
 a5 := Tryz.isAgg5
 z5 := Tryz.sizeOf5
 v5 := Tryz.zeroValue5
 t9 := Tryz.underlying9
 a9 := Tryz.isAgg9
 z9 := Tryz.sizeOf9
 v9 := Tryz.zeroValue9
 t22 := Tryz.underlying30
 a22 := Tryz.isAgg30
 z22 := Tryz.sizeOf30
 v22 := Tryz.zeroValue30
 t25 := Tryz.underlying72
 a25 := Tryz.isAgg72
 z25 := Tryz.sizeOf72
 v25 := Tryz.zeroValue72
 t39 := Tryz.underlying111
 a39 := Tryz.isAgg111
 z39 := Tryz.sizeOf111
 v39 := Tryz.zeroValue111
 t45 := Tryz.underlying125
 a45 := Tryz.isAgg125
 z45 := Tryz.sizeOf125
 v45 := Tryz.zeroValue125
 t46 := Tryz.underlying126
 a46 := Tryz.isAgg126
 z46 := Tryz.sizeOf126
 v46 := Tryz.zeroValue126
 t50 := Tryz.underlying87
 a50 := Tryz.isAgg87
 z50 := Tryz.sizeOf87
 v50 := Tryz.zeroValue87
 t53 := Tryz.underlying132
 a53 := Tryz.isAgg132
 z53 := Tryz.sizeOf132
 v53 := Tryz.zeroValue132
 t55 := Tryz.underlying134
 a55 := Tryz.isAgg134
 z55 := Tryz.sizeOf134
 v55 := Tryz.zeroValue134
 t66 := Tryz.underlying155
 a66 := Tryz.isAgg155
 z66 := Tryz.sizeOf155
 v66 := Tryz.zeroValue155
 t70 := Tryz.underlying159
 a70 := Tryz.isAgg159
 z70 := Tryz.sizeOf159
 v70 := Tryz.zeroValue159
 t76 := Tryz.underlying178
 a76 := Tryz.isAgg178
 z76 := Tryz.sizeOf178
 v76 := Tryz.zeroValue178
 t77 := Tryz.underlying179
 a77 := Tryz.isAgg179
 z77 := Tryz.sizeOf179
 v77 := Tryz.zeroValue179 }
def Tryz.sort34_ren : Go.Shelf.Ren := ⟨fun | 189 => 34 | 125 => 50 | 257 => 58 | 128 => 77 | 129 => 78 | 294 => 85 | 295 => 86 | 296 => 87 | 297 => 88 | 298 => 89 | 299 => 90 | 216 => 91 | 300 => 92 | 301 => 93 | 328 => 120 | 329 => 108 | 330 => 109 | 331 => 121 | 332 => 122 | 215 => 51 | 343 => 136 | n => n, fun | 28 => 47 | 3 => 3 | 46 => 111 | 0 => 0 | 51 => 132 | 53 => 134 | 4 => 4 | 183 => 126 | 182 => 125 | 131 => 87 | 5 => 5 | 9 => 9 | 218 => 155 | 222 => 159 | 228 => 178 | 229 => 179 | n => n, fun | n => n⟩
theorem Tryz.sort34 : Go.Proofs.Lays.n189 Tryz.prog Tryz.sort34_ren := {
 mixed := by kernel_rfl
 f125 := Tryz.func50.trans (congrArg some (by kernel_rfl))
 f128 := Tryz.func77.trans (congrArg some (by kernel_rfl))
 f129 := Tryz.func78.trans (congrArg some (by kernel_rfl))
 f189 := Tryz.func34.trans (congrArg some (by kernel_rfl))
 f215 := Tryz.func51.trans (congrArg some (by kernel_rfl))
 f216 := Tryz.func91.trans (congrArg some (by kernel_rfl))
 f257 := Tryz.func58.trans (congrArg some (by kernel_rfl))
 f294 := Tryz.func85.trans (congrArg some (by kernel_rfl))
 f295 := Tryz.func86.trans (congrArg some (by kernel_rfl))
 f296 := Tryz.func87.trans (congrArg some (by kernel_rfl))
 f297 := Tryz.func88.trans (congrArg some (by kernel_rfl))
 f298 := Tryz.func89.trans (congrArg some (by kernel_rfl))
 f299 := Tryz.func90.trans (congrArg some (by kernel_rfl))
 f300 := Tryz.func92.trans (congrArg some (by kernel_rfl))
 f301 := Tryz.func93.trans (congrArg some (by kernel_rfl))
 f328 := Tryz.func120.trans (congrArg some (by kernel_rfl))
 f329 := Tryz.func108.trans (congrArg some (by kernel_rfl))
 f330 := Tryz.func109.trans (congrArg some (by kernel_rfl))
 f331 := Tryz.func121.trans (congrArg some (by kernel_rfl))
 f332 := Tryz.func122.trans (congrArg some (by kernel_rfl))
 f343 := Tryz.func136.trans (congrArg some (by kernel_rfl))
 t0 := Tryz.underlying0
 a0 := Tryz.isAgg0
 z0 := Tryz.sizeOf0
 v0 := Tryz.zeroValue0
 t3 := Tryz.underlying3
 a3 := Tryz.isAgg3
 z3 := Tryz.sizeOf3
 v3 := Tryz.zeroValue3
 t4 := Tryz.underlying4
 a4 := Tryz.isAgg4
 z4 := Tryz.sizeOf4
 v4 := Tryz.zeroValue4
 t5 := Tryz.underlying5
 a5 := Tryz.isAgg5
 z5 := Tryz.sizeOf5
 v5 := Tryz.zeroValue5
 t9 := Tryz.underlying9
 a9 := Tryz.isAgg9
 z9 := Tryz.sizeOf9
 v9 := Tryz.zeroValue9
 t28 := Tryz.underlying47
 a28 := Tryz.isAgg47
 z28 := Tryz.sizeOf47
 v28 := Tryz.zeroValue47
 t46 := Tryz.underlying111
 a46 := Tryz.isAgg111
 z46 := Tryz.sizeOf111
 v46 := Tryz.zeroValue111
 t51 := Tryz.underlying132
 a51 := Tryz.isAgg132
 z51 := Tryz.sizeOf132
 v51 := Tryz.zeroValue132
 t53 := Tryz.underlying134
 a53 := Tryz.isAgg134
 z53 := Tryz.sizeOf134
 v53 := Tryz.zeroValue134
 t131 := Tryz.underlying87
 a131 := Tryz.isAgg87
 z131 := Tryz.sizeOf87
 v131 := Tryz.zeroValue87
 t182 := Tryz.underlying125
 a182 := Tryz.isAgg125
 z182 := Tryz.sizeOf125
 v182 := Tryz.zeroValue125
 t183 := Tryz.underlying126
 a183 := Tryz.isAgg126
 z183 := Tryz.sizeOf126
 v183 := Tryz.zeroValue126
 t218 := Tryz.underlying155
 a218 := Tryz.isAgg155
 z218 := Tryz.sizeOf155
 v218 := Tryz.zeroValue155
 t222 := Tryz.underlying159
 a222 := Tryz.isAgg159
 z222 := Tryz.sizeOf159
 v222 := Tryz.zeroValue159
 t228 := Tryz.underlying178
 a228 := Tryz.isAgg178
 z228 := Tryz.sizeOf178
 v228 := Tryz.zeroValue178
 t229 := Tryz.underlying179
 a229 := Tryz.isAgg179
 z229 := Tryz.sizeOf179
 v229 := Tryz.zeroValue179 }
end Go.Proofs
namespace Go.Av
open Go Go.RowKit Go.Proofs
set_option maxHeartbeats 64000000
theorem encEd_val : ∀ x, ∀ d ∈ encEd x, d.val.isSome = true := fun x d hd => by
 simp only [encEd, List.mem_cons, List.not_mem_nil, or_false] at hd
 rcases hd with rfl | rfl | rfl | rfl | rfl | rfl <;> rfl
theorem encMs_val : ∀ x, ∀ d ∈ encMs x, d.val.isSome = true := fun x d hd => by
 simp only [encMs, List.mem_cons, List.not_mem_nil, or_false] at hd
 rcases hd with rfl | rfl <;> rfl
theorem enters44 : ∀ args w, (callFunc 44 args).run Tryz.prog w = .ok (.enter 44 args) w := enters_of Tryz.func44 (by kernel_rfl) rfl
theorem enters27 : ∀ args w, (callFunc 27 args).run Tryz.prog w = .ok (.enter 27 args) w := enters_of Tryz.func27 (by kernel_rfl) rfl
theorem f43 (l : List Edg) (hl : l.length <= 1000000000) (hT : ∀ x ∈ l, ∀ y ∈ l, Go.Proofs.ltOf ordX x y = false -> Go.Proofs.ltOf ordX y x = false -> x = y) : ImplM Tryz.prog 43 (.ow 6 (l.map encEd)) [.one (.fn 44 [])] (.ow 6 ((sortL ordX l).map encEd)) :=
 sort_implM Tryz.sort43 6 (fun w => run_isAgg (by kernel_rfl)) (fun w => run_sizeOf (by kernel_rfl)) (by decide) encEd (fun _ => rfl) encEd_val ordX swoE 44 f44 enters44 ⟨Tryz.f43, Tryz.func43, by kernel_rfl, by decide⟩ l (by omega) hT
theorem f26 (l : List Msg) (hl : l.length <= 1000000000) : ImplM Tryz.prog 26 (.ow 2 (l.map encMs)) [.one (.fn 27 [])] (.ow 2 ((insL ordM l).map encMs)) := by
 rw [<- sort_msgs]
 exact sort_implM Tryz.sort26 2 (fun w => run_isAgg (by kernel_rfl)) (fun w => run_sizeOf (by kernel_rfl)) (by decide) encMs (fun _ => rfl) encMs_val ordM swoM 27 f27 enters27 ⟨Tryz.f26, Tryz.func26, by kernel_rfl, by decide⟩ l (by omega) (fun x _ y _ => ltM_eq)
theorem sort_none {P : Program} {ρ : Go.Shelf.Ren} (L : SlLaysF0.n6 P ρ) (g : FuncId) (body : ∃ fn, P.funcs[ρ.f 6]? = some fn /\ fn.body.isSome = true /\ fn.name ≠ "runtime.NumGoroutine") : Impl P (ρ.f 6) [.one (.sl []), .one (.fn g [])] (.tup []) := by
 refine ⟨body, fun w S vs hS hcz => ?_⟩
 have hvs : ∃ p c fv, vs = [.slice p 0 c, fv] := by
  generalize hr1 : ([] : List Nat) = r1 at hcz
  cases hcz with
  | cons v x r vs xs rs h1 h2 =>
    cases h2 with
    | cons v2 x2 r2 vs2 xs2 rs2 h3 h4 =>
      cases h4
      have h1 := CzS.one_inv h1
      cases h1 with
      | shNil a c => exact ⟨_, _, _, rfl⟩
      | sh ad n c z els vs hS hn hc hm hz hcell hl =>
        subst hn
        exact ⟨_, _, _, rfl⟩
 obtain ⟨p, c, fv, rfl⟩ := hvs
 refine (AnyF.slices_SortFunc_none (P := P) (ρ := ρ) { L with } p c fv w).mono ?_
 rintro e w' ⟨rfl, rfl⟩
 exact ⟨_, [], rfl, Below.refl _ _, by simp, List.nodup_nil, .tup _ _ _ .nil⟩
theorem f43n : Impl Tryz.prog 43 [.one (.sl []), .one (.fn 44 [])] (.tup []) := sort_none Tryz.sort43 44 ⟨Tryz.f43, Tryz.func43, by kernel_rfl, by decide⟩
theorem f34 (l : List Int) (hl : l.length <= 1000000000) : ImplM Tryz.prog 34 (.ow 1 (l.map encN)) [] (.ow 1 ((insL cmpI l).map encN)) := by
 have h := sortI_implM Tryz.sort34 ⟨Tryz.f34, Tryz.func34, by kernel_rfl, by decide⟩ l (by omega)
 have he : (l.mergeSort fun x y => decide (x <= y)) = insL cmpI l := by
  rw [<- sort_ints]
  unfold sortL
  congr 1
  funext x y
  rw [Bool.eq_iff_iff]
  simp only [Go.Proofs.ltOf, decide_eq_true_eq, Bool.not_eq_true', decide_eq_false_iff_not, cmpI_lt]
  omega
 rw [he] at h
 exact h
set_option maxHeartbeats 64000000
theorem f57 (l : List Int) (x : Int) (hl : l.length <= 1000000) : Impl Tryz.prog 57 [.one (.sl (l.map encN)), .one (.int .i64 x)] (.one (.one (.int .i64 (firstB (fun y => x == y) l)))) := by
 refine impl_v ?_
 refine wN ?_
 refine z_k (fun n e => ∃ k : Nat, k + n = l.length /\ (l.take k).any (fun y => x == y) = false /\ e = [(8, .sv (.one (.int .i64 k))), (7, .sv (.one (.int .i64 l.length))), (1, .sv (.one (.int .i64 x))), (0, .sv (.one (.sl (l.map encN))))]) l.length _ ⟨0, by simp, by simp, rfl⟩ (by simp [go_sem]) ?_
 rintro n e ⟨k, hk, h0, rfl⟩
 by_cases hlt : k < l.length
 ·cases hx : (x == l[k]) with
  | true =>
    have hf := firstB_at (p := fun y => x == y) hlt h0 hx
    refine wX (aN hlt <| aN encN.eq_1 hx) ?_
    simp [go_sem, hf]
  | false =>
    refine wX (aN hlt <| aN encN.eq_1 hx) ?_
    refine z_j (n - 1) _ (by omega) ⟨k + 1, by omega, ?_, rfl⟩ ?_
    ·rw [any_succ hlt, h0, hx]; rfl
    ·simp [go_sem]
 ·have hkl : l.take k = l := List.take_of_length_le (by omega)
  rw [hkl] at h0
  have hf := firstB_none h0
  refine wX hlt ?_
  simp [go_sem, hf]
theorem f33 (l : List Int) (x : Int) (hl : l.length <= 1000000) : Impl Tryz.prog 33 [.one (.sl (l.map encN)), .one (.int .i64 x)] (.one (.one (.bool (l.any (fun y => x == y))))) := by
 refine impl_v ?_
 have hf := firstB_any (fun y => x == y) l
 refine wC (f57 l x hl) ?_
 simp [go_sem, hf]
set_option maxHeartbeats 64000000
theorem any_contains (l : List Int) (x : Int) : l.any (fun y => x == y) = l.contains x := by
 rw [Bool.eq_iff_iff, List.any_eq_true, List.contains_iff_mem]
 constructor
 ·rintro ⟨y, hy, h⟩
  rw [beq_iff_eq] at h
  exact h ▸ hy
 ·intro h
  exact ⟨x, h, by simp⟩
theorem appendOk_z {l : List Int} {x : Int} (h : l.length <= 100000000) : z_f 1 8 (l.map encN) [[.int .i64 x]] := by
 refine ⟨?_, ?_, by omega, ?_, ?_⟩
 ·intro e he; rw [List.mem_singleton.1 he]; rfl
 ·intro e he; rw [List.mem_singleton.1 he]; rfl
 ·simp only [List.length_map, List.length_singleton, maxLen]; omega
 ·simp only [List.length_map, List.length_singleton]; omega
theorem blk_take2 (r : Int) (p : List Inter) {k : Nat} (h : k < p.length) {x : Inter} (hx : p[k] = x) : blkL r (p.take (k + 1)) = blkS (blkL r (p.take k)) x := by
 rw [blk_take r p h, hx]
theorem blk_len (r : Int) (p : List Inter) : (blkL r p).length <= p.length + 1 := by
 have key : ∀ (p : List Inter) (l : List Int), (p.foldl blkS l).length <= l.length + p.length := by
  intro p
  induction p with
  | nil => intro l; simp
  | cons x p ih =>
    intro l
    rw [List.foldl_cons]
    have h1 := ih (blkS l x)
    have h2 : (blkS l x).length <= l.length + 1 := by
     unfold blkS
     split
     ·simp
     ·omega
    simp only [List.length_cons]
    omega
 have := key p [r]
 unfold blkL
 simp only [List.length_cons, List.length_nil] at this
 omega
theorem f14 (r : Int) (p : List Inter) (hp : p.length <= 900000) : Impl Tryz.prog 14 [.one (.int .i64 r), .one (.sl (p.map encI))] (.one (.one (.ow 1 ((blockV r p).map encN)))) := by
 have hbl := fun k => blk_len r (p.take k)
 refine impl_v ?_
 refine z_l [(4, .sv (.one .nil)), (1, .sv (.one (.sl (p.map encI)))), (0, .sv (.one (.int .i64 r)))] ?_ ?_
 ·refine wN ?_
  refine z_m ?_
  simp [go_sem]
 refine z_l [(5, .sv (.one (.ow 1 ((blkL r (p.take 0)).map encN)))), (4, .sv (.one .nil)), (1, .sv (.one (.sl (p.map encI))))] ?_ ?_
 ·refine wN ?_
  refine z_m ?_
  simp [go_sem, blkL, encN]
 refine z_l [(5, .sv (.one (.ow 1 ((blkL r p).map encN)))), (4, .sv (.one .nil))] ?_ ?_
 ·refine wN ?_
  refine z_k (fun n e => ∃ k : Nat, k + n = p.length /\ e = [(12, .sv (.one (.int .i64 k))), (11, .sv (.one (.int .i64 p.length))), (10, .sv (.one (.sl (p.map encI)))), (5, .sv (.one (.ow 1 ((blkL r (p.take k)).map encN)))), (4, .sv (.one .nil)), (1, .sv (.one (.sl (p.map encI))))]) p.length _ ⟨0, by simp, rfl⟩ (by simp [go_sem]) ?_
  rintro n e ⟨k, hk, rfl⟩
  by_cases hlt : k < p.length
  ·obtain ⟨x, hx⟩ : ∃ x, p[k] = x := ⟨_, rfl⟩
   have hst := blk_take2 r p hlt hx
   have hl := hbl k
   rw [List.length_take] at hl
   obtain ⟨L, hL⟩ : ∃ L, blkL r (p.take k) = L := ⟨_, rfl⟩
   rw [hL] at hst hl ⊢
   have k33a := f33 L x.from_ (by omega)
   have k33b := f33 L x.to (by omega)
   rw [any_contains] at k33a k33b
   have hap := appendOk_z (l := L) (x := x.to) (by omega)
   unfold blkS at hst
   cases h1 : L.contains x.from_ with
   | false =>
     rw [h1] at k33a hst
     simp only [Bool.false_and, Bool.false_eq_true, if_false] at hst
     refine wV (aN hlt <| aN hx encI.eq_1) k33a ?_
     refine z_j (n - 1) _ (by omega) ⟨k + 1, by omega, rfl⟩ ?_
     simp [go_sem, hst]
   | true =>
     rw [h1] at k33a hst
     cases h2 : L.contains x.to with
     | true =>
       rw [h2] at k33b hst
       simp only [Bool.not_true, Bool.and_false, Bool.false_eq_true, if_false] at hst
       refine wV (aN hlt <| aN hx encI.eq_1) (aN k33a k33b) ?_
       refine z_j (n - 1) _ (by omega) ⟨k + 1, by omega, rfl⟩ ?_
       simp [go_sem, hst]
     | false =>
       rw [h2] at k33b hst
       simp only [Bool.not_false, Bool.and_true, if_true] at hst
       refine wV (aN hlt <| aN hx <| aN encI.eq_1 hap) (aN k33a k33b) ?_
       refine z_j (n - 1) _ (by omega) ⟨k + 1, by omega, rfl⟩ ?_
       simp [go_sem, hst, encN]
  ·have hke : k = p.length := by omega
   subst hke
   refine wN ?_
   refine z_m ?_
   simp [go_sem]
 have hl := hbl p.length
 rw [List.take_length] at hl
 have k34 := f34 (blkL r p) (by omega)
 unfold blockV
 refine wC k34 ?_
 simp [go_sem]
set_option maxHeartbeats 64000000
theorem f17 (l : List Int) (x : Int) (hl : l.length <= 100000000) : Impl Tryz.prog 17 [.one (.sl (l.map encN)), .one (.int .i64 x)] (.one (.one (.bool (l.contains x)))) := by
 rw [<- any_contains]
 refine impl_v ?_
 refine wN ?_
 refine z_k (fun n e => ∃ k : Nat, k + n = l.length /\ (l.take k).any (fun y => x == y) = false /\ e = [(5, .sv (.one (.int .i64 k))), (4, .sv (.one (.bool false))), (1, .sv (.one (.int .i64 x))), (0, .sv (.one (.sl (l.map encN))))]) l.length _ ⟨0, by simp, by simp, rfl⟩ (by simp [go_sem]) ?_
 rintro n e ⟨k, hk, h0, rfl⟩
 by_cases hlt : k < l.length
 ·obtain ⟨y, hy⟩ : ∃ y, l[k] = y := ⟨_, rfl⟩
  by_cases hxy : x = y
  ·have hr : l.any (fun y => x == y) = true := List.any_eq_true.2 ⟨y, hy ▸ List.getElem_mem hlt, by simp [hxy]⟩
   have hb : (y == x) = true := by simp [hxy]
   refine wX (aN hlt <| aN hy <| aN encN.eq_1 <| aN hb hxy) ?_
   simp [go_sem, hr]
  ·have hb : (y == x) = false := by simp; exact fun e => hxy e.symm
   have hb2 : (x == y) = false := by simpa using hxy
   refine wX (aN hlt <| aN hy <| aN encN.eq_1 <| aN hb hxy) ?_
   refine z_j (n - 1) _ (by omega) ⟨k + 1, by omega, ?_, rfl⟩ ?_
   ·rw [any_succ hlt, h0, hy, hb2]; rfl
   ·simp [go_sem]
 ·have hkl : l.take k = l := List.take_of_length_le (by omega)
  rw [hkl] at h0
  refine wX hlt ?_
  simp [go_sem, h0]
theorem with_done {n y : Int} : ∀ {a : List Int}, a.any (fun z => decide (n <= z)) = true -> withL (a ++ [y]) n = withL a n ++ [y]
 | [], h => by cases h
 | z :: a, h => by
   simp only [List.cons_append, withL]
   by_cases h1 : n <= z
   ·rw [if_pos h1, if_pos h1]
    split <;> rfl
   ·rw [if_neg h1, if_neg h1, with_done (by simpa [h1] using h)]
    rfl
theorem with_open {n y : Int} : ∀ {a : List Int}, a.any (fun z => decide (n <= z)) = false -> withL (a ++ [y]) n = if n <= y then (if n < y then a ++ [n, y] else a ++ [y]) else a ++ [y, n]
 | [], _ => by
   simp only [List.nil_append, withL]
 | z :: a, h => by
   simp only [List.any_cons, Bool.or_eq_false_iff, decide_eq_false_iff_not] at h
   simp only [List.cons_append, withL]
   rw [if_neg h.1, with_open h.2]
   split
   ·split <;> rfl
   ·rfl
theorem with_last {n : Int} : ∀ {a : List Int}, a.any (fun z => decide (n <= z)) = false -> withL a n = a ++ [n]
 | [], _ => rfl
 | z :: a, h => by
   simp only [List.any_cons, Bool.or_eq_false_iff, decide_eq_false_iff_not] at h
   simp only [List.cons_append, withL]
   rw [if_neg h.1, with_last h.2]
theorem with_len (l : List Int) (n : Int) : (withL l n).length <= l.length + 1 := by
 induction l with
 | nil => simp [withL]
 | cons y l ih =>
   unfold withL
   split
   ·split <;> simp
   ·simp only [List.length_cons]; omega
theorem f35 (l : List Int) (x : Int) (hl : l.length <= 10000000) : Impl Tryz.prog 35 [.one (.sl (l.map encN)), .one (.int .i64 x)] (.one (.one (.ow 1 ((withL l x).map encN)))) := by
 refine impl_v ?_
 refine wN ?_
 refine z_k (fun n e => ∃ (k : Nat) (d : Bool) (A : List Int), k + n = l.length /\ (l.take k).any (fun z => decide (x <= z)) = d /\ A = (if d then withL (l.take k) x else l.take k) /\ e = [(7, .sv (.one (.int .i64 k))), (6, .sv (.one (.bool d))), (5, .sv (.one (.ow 1 (A.map encN)))), (4, .sv (.one .nil)), (1, .sv (.one (.int .i64 x))), (0, .sv (.one (.sl (l.map encN))))]) l.length _ ⟨0, false, [], by simp, by simp, by simp, rfl⟩ (by simp [go_sem]) ?_
 rintro n e ⟨k, d, A, hk, hd, hA, rfl⟩
 have hAl : A.length <= k + 1 := by
  rw [hA]
  split
  ·have := with_len (l.take k) x
   rw [List.length_take] at this
   omega
  ·rw [List.length_take]; omega
 by_cases hlt : k < l.length
 ·obtain ⟨y, hy⟩ : ∃ y, l[k] = y := ⟨_, rfl⟩
  have ht : l.take (k + 1) = l.take k ++ [y] := by rw [List.take_succ_eq_append_getElem hlt, hy]
  have hap := appendOk_z (l := A) (x := y) (by omega)
  cases d with
  | true =>
    have hw := with_done (n := x) (y := y) hd
    rw [if_pos rfl] at hA
    refine wX (aN hlt <| aN hy <| aN encN.eq_1 hap) ?_
    refine z_j (n - 1) _ (by omega) ⟨k + 1, true, A ++ [y], by omega, ?_, ?_, rfl⟩ ?_
    ·rw [ht, List.any_append, hd]; rfl
    ·rw [if_pos rfl, ht, hw, hA]
    ·simp [go_sem, encN]
  | false =>
    have hw := with_open (n := x) (y := y) hd
    simp only [Bool.false_eq_true, if_false] at hA
    by_cases hxy : x <= y
    ·rw [if_pos hxy] at hw
     by_cases hxy2 : x < y
     ·rw [if_pos hxy2] at hw
      have hap1 := appendOk_z (l := A) (x := x) (by omega)
      have hap2 := appendOk_z (l := A ++ [x]) (x := y) (by simp; omega)
      simp only [List.map_append, List.map_cons, List.map_nil, encN] at hap2
      refine wX (aN hlt <| aN hy <| aN encN.eq_1 <| aN hap1 <| aN hap2 <| aN hxy hxy2) ?_
      refine z_j (n - 1) _ (by omega) ⟨k + 1, true, A ++ [x, y], by omega, ?_, ?_, rfl⟩ ?_
      ·rw [ht, List.any_append, hd]; simp [hxy]
      ·rw [if_pos rfl, ht, hw, hA]
      ·simp [go_sem, encN]
     ·rw [if_neg hxy2] at hw
      refine wX (aN hlt <| aN hy <| aN encN.eq_1 <| aN hap <| aN hxy hxy2) ?_
      refine z_j (n - 1) _ (by omega) ⟨k + 1, true, A ++ [y], by omega, ?_, ?_, rfl⟩ ?_
      ·rw [ht, List.any_append, hd]; simp [hxy]
      ·rw [if_pos rfl, ht, hw, hA]
      ·simp [go_sem, encN]
    ·refine wX (aN hlt <| aN hy <| aN encN.eq_1 <| aN hap hxy) ?_
     refine z_j (n - 1) _ (by omega) ⟨k + 1, false, A ++ [y], by omega, ?_, ?_, rfl⟩ ?_
     ·rw [ht, List.any_append, hd]; simp; omega
     ·simp only [Bool.false_eq_true, if_false]
      rw [ht, hA]
     ·simp [go_sem, encN]
 ·have hkl : l.take k = l := List.take_of_length_le (by omega)
  rw [hkl] at hd hA
  have hap := appendOk_z (l := A) (x := x) (by omega)
  cases d with
  | true =>
    rw [if_pos rfl] at hA
    refine wX hlt ?_
    simp [go_sem, hA]
  | false =>
    simp only [Bool.false_eq_true, if_false] at hA
    have hw := with_last hd
    refine wX (aN hlt hap) ?_
    simp [go_sem, hw, hA, encN]
set_option maxHeartbeats 64000000
theorem f15 (a b : List Int) (ha : a.length <= 100000000) (hb : b.length <= 100000000) : Impl Tryz.prog 15 [.one (.sl (a.map encN)), .one (.sl (b.map encN))] (.one (.one (.bool (decide (a = b))))) := by
 refine impl_v ?_
 by_cases hab : a.length = b.length
 rotate_left
 ·have hne : a ≠ b := fun e => hab (by rw [e])
  have hne2 : ¬ (a.length : Int) = b.length := by omega
  refine wX (aN hab hne2) ?_
  simp [go_sem, hne]
 have hab2 : (a.length : Int) = b.length := by omega
 refine wX (aN hab hab2) ?_
 refine z_k (fun n e => ∃ k : Nat, k + n = a.length /\ a.take k = b.take k /\ e = [(5, .sv (.one (.int .i64 k))), (4, .sv (.one (.bool false))), (1, .sv (.one (.sl (b.map encN)))), (0, .sv (.one (.sl (a.map encN))))]) a.length _ ⟨0, by simp, by simp, rfl⟩ (by simp [go_sem]) ?_
 rintro n e ⟨k, hk, h0, rfl⟩
 by_cases hlt : k < a.length
 ·have hlt' : k < b.length := by omega
  obtain ⟨x, hx⟩ : ∃ x, a[k] = x := ⟨_, rfl⟩
  obtain ⟨y, hy⟩ : ∃ y, b[k] = y := ⟨_, rfl⟩
  by_cases hxy : x = y
  ·refine wX (aN hlt <| aN hlt' <| aN hx <| aN hy <| aN hxy encN.eq_1) ?_
   refine z_j (n - 1) _ (by omega) ⟨k + 1, by omega, ?_, rfl⟩ ?_
   ·rw [List.take_succ_eq_append_getElem hlt, List.take_succ_eq_append_getElem hlt', h0, hx, hy, hxy]
   ·simp [go_sem]
  ·have hne : a ≠ b := fun e => by subst e; exact hxy (hx.symm.trans hy)
   refine wX (aN hlt <| aN hlt' <| aN hx <| aN hy <| aN hxy encN.eq_1) ?_
   simp [go_sem, hne]
 ·have hkl : a.take k = a := List.take_of_length_le (by omega)
  have hkl' : b.take k = b := List.take_of_length_le (by omega)
  have : a = b := by rw [<- hkl, <- hkl', h0]
  refine wX hlt ?_
  simp [go_sem, this]
def minusL (a b : List Int) : List Int := a.filter fun x => !b.contains x
theorem minus_succ {a b : List Int} {k : Nat} (h : k < a.length) {x : Int} (hx : a[k] = x) : minusL (a.take (k + 1)) b = if b.contains x then minusL (a.take k) b else minusL (a.take k) b ++ [x] := by
 unfold minusL
 rw [List.take_succ_eq_append_getElem h, hx, List.filter_append]
 cases hc : b.contains x with
 | true =>
   have hm : x ∈ b := List.contains_iff_mem.1 hc
   simp [hm]
 | false =>
   have hm : x ∉ b := fun h => by
    rw [List.contains_iff_mem.2 h] at hc
    cases hc
   simp [hm]
theorem f36 (a b : List Int) (ha : a.length <= 10000000) (hb : b.length <= 10000000) : Impl Tryz.prog 36 [.one (.sl (a.map encN)), .one (.sl (b.map encN))] (.one (.one (.ow 1 ((minusL a b).map encN)))) := by
 refine impl_v ?_
 refine wN ?_
 refine z_k (fun n e => ∃ (k : Nat) (A : List Int), k + n = a.length /\ minusL (a.take k) b = A /\ e = [(6, .sv (.one (.int .i64 k))), (5, .sv (.one (.ow 1 (A.map encN)))), (4, .sv (.one .nil)), (1, .sv (.one (.sl (b.map encN)))), (0, .sv (.one (.sl (a.map encN))))]) a.length _ ⟨0, [], by simp, by simp [minusL], rfl⟩ (by simp [go_sem]) ?_
 rintro n e ⟨k, A, hk, hA, rfl⟩
 by_cases hlt : k < a.length
 ·obtain ⟨x, hx⟩ : ∃ x, a[k] = x := ⟨_, rfl⟩
  have hst := minus_succ (b := b) hlt hx
  rw [hA] at hst
  have hAl : A.length <= k := by
   rw [<- hA]
   unfold minusL
   have := List.length_filter_le (fun x => !b.contains x) (a.take k)
   rw [List.length_take] at this
   omega
  have hap := appendOk_z (l := A) (x := x) (by omega)
  have k17 := f17 b x (by omega)
  cases hc : b.contains x with
  | true =>
    rw [hc] at k17 hst
    rw [if_pos rfl] at hst
    refine wV (aN hlt <| aN hx encN.eq_1) k17 ?_
    refine z_j (n - 1) _ (by omega) ⟨k + 1, A, by omega, hst, rfl⟩ ?_
    simp [go_sem]
  | false =>
    rw [hc] at k17 hst
    simp only [Bool.false_eq_true, if_false] at hst
    refine wV (aN hlt <| aN hx <| aN encN.eq_1 hap) k17 ?_
    refine z_j (n - 1) _ (by omega) ⟨k + 1, A ++ [x], by omega, hst, rfl⟩ ?_
    simp [go_sem, encN]
 ·have hkl : a.take k = a := List.take_of_length_le (by omega)
  rw [hkl] at hA
  refine wX hlt ?_
  simp [go_sem, hA]
def subL (a b : List Int) : Bool := decide ((minusL a b).length = 0)
theorem f18 (a b : List Int) (ha : a.length <= 10000000) (hb : b.length <= 10000000) : Impl Tryz.prog 18 [.one (.sl (a.map encN)), .one (.sl (b.map encN))] (.one (.one (.bool (subL a b)))) := by
 have k36 := f36 a b ha hb
 unfold subL
 generalize minusL a b = A at *
 refine impl_v ?_
 by_cases hA : A.length = 0
 ·have hA2 : A = [] := List.length_eq_zero_iff.1 hA
  subst hA2
  refine wC k36 ?_
  simp [go_sem]
 ·have hb : ((A.length : Int) == 0) = false := by simpa using hA
  refine wV hb k36 ?_
  simp [go_sem, hA]
theorem ref_take (r : Int) (p : List Inter) {k : Nat} (h : k < p.length) {x : Inter} (hx : p[k] = x) : refB r (p.take (k + 1)) = refS (refB r (p.take k)) x := by
 unfold refB
 rw [List.take_succ_eq_append_getElem h, List.foldl_append, hx]
 rfl
theorem ref_len (r : Int) (p : List Inter) : (refB r p).length <= p.length + 1 := by
 rw [ref_block, block_len]
 exact blk_len r p
theorem f16 (r : Int) (p : List Inter) (hp : p.length <= 900000) : Impl Tryz.prog 16 [.one (.int .i64 r), .one (.sl (p.map encI))] (.one (.one (.ow 1 ((blockV r p).map encN)))) := by
 rw [<- ref_block]
 have hbl := fun k => ref_len r (p.take k)
 refine impl_v ?_
 refine z_l [(4, .sv (.one .nil)), (1, .sv (.one (.sl (p.map encI)))), (0, .sv (.one (.int .i64 r)))] ?_ ?_
 ·refine wN ?_
  refine z_m ?_
  simp [go_sem]
 refine z_l [(5, .sv (.one (.ow 1 ((refB r (p.take 0)).map encN)))), (4, .sv (.one .nil)), (1, .sv (.one (.sl (p.map encI))))] ?_ ?_
 ·refine wN ?_
  refine z_m ?_
  simp [go_sem, refB, encN]
 refine wN ?_
 refine z_k (fun n e => ∃ (k : Nat) (A : List Int), k + n = p.length /\ refB r (p.take k) = A /\ e = [(6, .sv (.one (.int .i64 k))), (5, .sv (.one (.ow 1 (A.map encN)))), (4, .sv (.one .nil)), (1, .sv (.one (.sl (p.map encI))))]) p.length _ ⟨0, _, by simp, rfl, rfl⟩ (by simp [go_sem]) ?_
 rintro n e ⟨k, A, hk, hA, rfl⟩
 by_cases hlt : k < p.length
 ·obtain ⟨x, hx⟩ : ∃ x, p[k] = x := ⟨_, rfl⟩
  have hst := ref_take r p hlt hx
  have hl := hbl k
  rw [List.length_take] at hl
  rw [hA] at hst hl
  have k17 := f17 A x.from_ (by omega)
  have k35 := f35 A x.to (by omega)
  unfold refS at hst
  cases hc : A.contains x.from_ with
  | true =>
    rw [hc] at k17 hst
    rw [if_pos rfl] at hst
    refine wV (aN hlt <| aN hx encI.eq_1) (aN k17 k35) ?_
    refine z_j (n - 1) _ (by omega) ⟨k + 1, _, by omega, hst, rfl⟩ ?_
    simp [go_sem]
  | false =>
    rw [hc] at k17 hst
    simp only [Bool.false_eq_true, if_false] at hst
    refine wV (aN hlt <| aN hx encI.eq_1) k17 ?_
    refine z_j (n - 1) _ (by omega) ⟨k + 1, A, by omega, hst, rfl⟩ ?_
    simp [go_sem]
 ·have hkl : p.take k = p := List.take_of_length_le (by omega)
  rw [hkl] at hA
  refine wX hlt ?_
  simp [go_sem, hA]
set_option maxHeartbeats 64000000
theorem f94 (a b : Inter) : Impl Tryz.prog 94 [.ag (encI a), .ag (encI b)] (.one (.one (.bool (decide (ordI a b < 0))))) := by
 refine impl_v ?_
 have hd := ordI_lt a b
 by_cases h1 : a.from_ = b.from_
 ·by_cases h2 : a.to = b.to
  ·have hr : decide (ordI a b < 0) = decide (a.label < b.label) := by
    rw [decide_eq_decide, hd]
    omega
   rw [hr]
   refine wX (aN encI.eq_1 <| aN h1 h2) ?_
   simp [go_sem]
  ·have hr : decide (ordI a b < 0) = decide (a.to < b.to) := by
    rw [decide_eq_decide, hd]
    omega
   rw [hr]
   refine wX (aN encI.eq_1 <| aN h1 h2) ?_
   simp [go_sem]
 ·have hr : decide (ordI a b < 0) = decide (a.from_ < b.from_) := by
   rw [decide_eq_decide, hd]
   omega
  rw [hr]
  refine wX (aN encI.eq_1 h1) ?_
  simp [go_sem]
theorem f21 (a b : List Inter) (ha : a.length <= 100000000) (hb : b.length <= 100000000) : Impl Tryz.prog 21 [.one (.sl (a.map encI)), .one (.sl (b.map encI))] (.one (.one (.bool (decide (a = b))))) := by
 refine impl_v ?_
 by_cases hab : a.length = b.length
 rotate_left
 ·have hne : a ≠ b := fun e => hab (by rw [e])
  have hne2 : ¬ (a.length : Int) = b.length := by omega
  refine wX (aN hab hne2) ?_
  simp [go_sem, hne]
 have hab2 : (a.length : Int) = b.length := by omega
 refine wX (aN hab hab2) ?_
 refine z_k (fun n e => ∃ k : Nat, k + n = a.length /\ a.take k = b.take k /\ e = [(5, .sv (.one (.int .i64 k))), (4, .sv (.one (.bool false))), (1, .sv (.one (.sl (b.map encI)))), (0, .sv (.one (.sl (a.map encI))))]) a.length _ ⟨0, by simp, by simp, rfl⟩ (by simp [go_sem]) ?_
 rintro n e ⟨k, hk, h0, rfl⟩
 by_cases hlt : k < a.length
 ·have hlt' : k < b.length := by omega
  obtain ⟨x, hx⟩ : ∃ x, a[k] = x := ⟨_, rfl⟩
  obtain ⟨y, hy⟩ : ∃ y, b[k] = y := ⟨_, rfl⟩
  by_cases hxy : x = y
  ·subst hxy
   refine wX (aN hlt <| aN hlt' <| aN hx <| aN hy encI.eq_1) ?_
   refine z_j (n - 1) _ (by omega) ⟨k + 1, by omega, ?_, rfl⟩ ?_
   ·rw [List.take_succ_eq_append_getElem hlt, List.take_succ_eq_append_getElem hlt', h0, hx, hy]
   ·simp [go_sem]
  ·have hne : a ≠ b := fun e => by subst e; exact hxy (hx.symm.trans hy)
   have hb3 : (x.from_ == y.from_ && (x.to == y.to && x.label == y.label)) = false := by
    rw [Bool.eq_false_iff]
    intro h
    simp only [Bool.and_eq_true, beq_iff_eq] at h
    apply hxy
    cases x
    cases y
    simp_all
   refine wX (aN hlt <| aN hlt' <| aN hx <| aN hy <| aN hb3 encI.eq_1) ?_
   simp [go_sem, hne]
 ·have hkl : a.take k = a := List.take_of_length_le (by omega)
  have hkl' : b.take k = b := List.take_of_length_le (by omega)
  have : a = b := by rw [<- hkl, <- hkl', h0]
  refine wX hlt ?_
  simp [go_sem, this]
def fewE (g : Glob) : Bool := decide (g.edges.length <= 50) && (decide (g.roles.length <= 6) && (decide (g.decls.length <= 40) && decide (g.timeouts.length <= 50)))
theorem f10 (g : Glob) : Impl Tryz.prog 10 [.ag (encG g)] (.one (.one (.bool (fewE g)))) := by
 refine impl_v ?_
 have c1 : decide ((g.edges.length : Int) <= 50) = decide (g.edges.length <= 50) := by rw [decide_eq_decide]; omega
 have c2 : decide ((g.roles.length : Int) <= 6) = decide (g.roles.length <= 6) := by rw [decide_eq_decide]; omega
 have c3 : decide ((g.decls.length : Int) <= 40) = decide (g.decls.length <= 40) := by rw [decide_eq_decide]; omega
 have c4 : decide ((g.timeouts.length : Int) <= 50) = decide (g.timeouts.length <= 50) := by rw [decide_eq_decide]; omega
 refine wX encG.eq_1 ?_
 simp only [go_sem, fewE, c1, c2, c3, c4, Bool.and_assoc]
 try simp [go_sem, c1, c2, c3, c4]
end Go.Av
set_option linter.unusedVariables false
namespace Go.Av
open Go Go.RowKit Go.Proofs
structure RelQ (zs : List Vz) (q : List Vs) : Prop where
 len : zs.length = q.length
 at_ : ∀ i, (h : i < q.length) -> ∃ z v, zs[i]? = some z /\ q[i]? = some v /\ z.st = v.st /\ z.bl = v.bl /\ z.sn = v.sn /\
  ((z.ah < 0 /\ v.path = []) \/ (0 <= z.ah /\ z.ah.toNat < i /\ ∃ u, q[z.ah.toNat]? = some u /\ v.path = u.path ++ [z.act]))
theorem relQ_snoc {zs : List Vz} {q : List Vs} (h : RelQ zs q) {i : Nat} {u v : Vs} (hu : q[i]? = some u) {x : Inter} (hp : v.path = u.path ++ [x]) : RelQ (zs ++ [vzOf v i x]) (q ++ [v]) := by
 have hi := (List.getElem?_eq_some_iff.1 hu).1
 refine ⟨by simp [h.len], fun k hk => ?_⟩
 by_cases hkq : k < q.length
 ·obtain ⟨z, w, h1, h2, h3, h4, h5, h6⟩ := h.at_ k hkq
  refine ⟨z, w, by rw [List.getElem?_append_left (by rw [h.len]; exact hkq)]; exact h1, by rw [List.getElem?_append_left hkq]; exact h2, h3, h4, h5, ?_⟩
  rcases h6 with h6 | ⟨a1, a2, t, a3, a4⟩
  ·exact .inl h6
  ·exact .inr ⟨a1, a2, t, by rw [List.getElem?_append_left (by omega)]; exact a3, a4⟩
 ·rw [List.length_append, List.length_singleton] at hk
  have : k = q.length := by omega
  subst this
  refine ⟨vzOf v i x, v, ?_, ?_, rfl, rfl, rfl, .inr ⟨?_, ?_, u, ?_, hp⟩⟩
  ·rw [List.getElem?_append_right (by rw [h.len]; omega), h.len]
   simp
  ·rw [List.getElem?_append_right (by omega)]
   simp
  ·simp [vzOf]
  ·simpa [vzOf] using hi
  ·rw [List.getElem?_append_left (by simpa [vzOf] using hi)]
   simpa [vzOf] using hu
theorem relQ_first (x : Edg) : RelQ [vzOf (firstV x) (-1) ⟨0, 0, 0⟩] [firstV x] := by
 refine ⟨rfl, fun i h => ?_⟩
 have : i = 0 := by simpa using h
 subst this
 exact ⟨_, _, rfl, rfl, rfl, rfl, rfl, .inl ⟨by simp [vzOf], rfl⟩⟩
theorem setB_same {n : Nat} {r : Int} (h : hasB n r = true) : setB n r = n := by
 unfold setB hasB at *
 apply Nat.eq_of_testBit_eq
 intro i
 rw [Nat.testBit_or, Nat.one_shiftLeft, Nat.testBit_two_pow]
 by_cases hi : r.toNat = i
 ·subst hi
  simp [h]
 ·simp [hi]
theorem nxtV_ref (p : Int) (v : Vs) (x : Edg) : nxtV p v x = ⟨x.to, if hasB v.bl x.act.from_ then setB v.bl x.act.to else v.bl, if hasB v.bl x.act.from_ then v.sn else if x.act.to = p then setB v.sn x.act.from_ else v.sn, v.path ++ [x.act]⟩ := by
 unfold nxtV isNew
 cases h1 : hasB v.bl x.act.from_ with
 | true => simp
 | false =>
   by_cases h2 : x.act.to = p
   ·cases h3 : hasB v.sn x.act.from_ with
    | true => simp [h2, setB_same h3]
    | false => simp [h2]
   ·simp [h2]
theorem any_code {g : Glob} {q : List Vs} (hq : ∀ v ∈ q, VsOk g v) {w : Vs} (hw : VsOk g w) : q.any (sameV w) = decide (codeV w ∈ q.map codeV) := by
 rw [Bool.eq_iff_iff, List.any_eq_true, decide_eq_true_eq, List.mem_map]
 constructor
 ·rintro ⟨v, hv, hs⟩
  exact ⟨v, hv, ((same_code hw (hq v hv)).2 hs).symm⟩
 ·rintro ⟨v, hv, hs⟩
  exact ⟨v, hv, (same_code hw (hq v hv)).1 hs.symm⟩
def pathF (g : Glob) (x : Edg) (m : Msg) : Option (List Inter) := ((searchV g x).find? fun f => msgF f == m).map (·.path)
theorem path_some {g : Glob} {x : Edg} {m : Msg} {p : List Inter} (h : pathF g x m = some p) : ∃ f ∈ searchV g x, msgF f = m /\ f.path = p := by
 unfold pathF at h
 rw [Option.map_eq_some_iff] at h
 obtain ⟨f, hf, rfl⟩ := h
 have h1 := List.find?_some hf
 exact ⟨f, List.mem_of_find?_eq_some hf, by simpa using h1, rfl⟩
theorem path_early {g : Glob} {x : Edg} {m : Msg} : (pathF g x m).isSome = true ↔ m ∈ earlyV g x := by
 unfold pathF
 rw [Option.isSome_map, List.find?_isSome, early_mem]
 simp
theorem path_of {g : Glob} {x : Edg} {f : Fnd} (hf : f ∈ searchV g x) : pathF g x (msgF f) = some f.path := by
 unfold pathF
 cases h : (searchV g x).find? (fun y => msgF y == msgF f) with
 | none =>
   have := List.find?_eq_none.1 h f hf
   simp at this
 | some y =>
   have h1 := List.find?_some h
   have h2 := List.mem_of_find?_eq_some h
   have hs : sameM y f = true := by
    simp only [beq_iff_eq] at h1
    injection h1 with a b
    simp [sameM, a, b]
   have hp := search_apart g x
   obtain ⟨i, hi, rfl⟩ := List.mem_iff_getElem.1 h2
   obtain ⟨j, hj, rfl⟩ := List.mem_iff_getElem.1 hf
   have hsy : ∀ a b : Fnd, sameM a b = sameM b a := fun a b => by
    unfold sameM
    rw [Bool.eq_iff_iff]
    simp only [Bool.and_eq_true, beq_iff_eq]
    constructor <;> rintro ⟨h1, h2⟩ <;> exact ⟨h1.symm, h2.symm⟩
   rw [List.pairwise_iff_getElem] at hp
   rcases Nat.lt_trichotomy i j with hij | hij | hij
   ·have := hp i j hi hj hij
    rw [hs] at this
    cases this
   ·subst hij
    rfl
   ·have := hp j i hj hi hij
    rw [hsy, hs] at this
    cases this
instance : LawfulBEq Msg := inferInstance
theorem path_right {g : Glob} (hg : EdB g) {b : Bool} (ho : orderedB g b = true) {e : Edg} (he : e ∈ g.edges) {m : Msg} {p : List Inter} (h : pathF g e m = some p) : rightB g.edges e m.peer m.label p = true := by
 obtain ⟨f, hf, rfl, rfl⟩ := path_some h
 exact (right_iff hg ho).2 (search_right hg he f hf)
theorem path_least {g : Glob} (hg : EdB g) {b : Bool} (ho : orderedB g b = true) {e : Edg} (he : e ∈ g.edges) {m : Msg} {p : List Inter} (hm : 0 <= m.peer) (h : rightB g.edges e m.peer m.label p = true) : m ∈ earlyV g e /\ ∃ q, pathF g e m = some q /\ q.length <= p.length := by
 obtain ⟨f, hf, h1, h2, h3⟩ := found_least hg he hm ((right_iff hg ho).1 h)
 have hmf : msgF f = m := by
  cases m
  unfold msgF
  simp_all
 refine ⟨early_mem.2 ⟨f, hf, hmf⟩, f.path, ?_, h3⟩
 rw [<- hmf]
 exact path_of hf
set_option maxHeartbeats 64000000
theorem und102 : Tryz.prog.underlying 102 = some (.struct #[⟨"state", 3, 0, false, "", "farandole/early", 0⟩, ⟨"blocked", 5, 1, false, "", "farandole/early", 8⟩, ⟨"sent", 5, 2, false, "", "farandole/early", 9⟩]) := by kernel_rfl
theorem und3 : Tryz.prog.underlying 3 = some (.int .i64) := by kernel_rfl
theorem und5 : Tryz.prog.underlying 5 = some (.int .u8) := by kernel_rfl
theorem size3 : sizeT Tryz.prog 3 = some 1 := by kernel_rfl
theorem size5 : sizeT Tryz.prog 5 = some 1 := by kernel_rfl
theorem kind3 : kindT Tryz.prog 3 = some false := by kernel_rfl
theorem kind5 : kindT Tryz.prog 5 = some false := by kernel_rfl
theorem key3 (em : Bool) (w : World) (n : Nat) (x : Int) : (Instr.checkKey em (n + 1) 3 (.int .i64 x)).run Tryz.prog w = .ok () w := by
 simp [Instr.checkKey, run_underlying und3]
theorem key5 (em : Bool) (w : World) (n : Nat) (x : Int) : (Instr.checkKey em (n + 1) 5 (.int .u8 x)).run Tryz.prog w = .ok () w := by
 simp [Instr.checkKey, run_underlying und5]
theorem key102 (s a b : Int) : KeyT Tryz.prog 102 [.ki .i64 s, .ki .u8 a, .ki .u8 b] := by
 intro em w
 show (Instr.checkKey em (9997 + 1 + 1 + 1) 102 _).run Tryz.prog w = _
 rw [Instr.checkKey]
 simp only [KV.key, List.map_cons, List.map_nil, KV.val, Sem.run_bind, run_underlying und102, Result.andThen_ok, Array.forIn_toList, <- Array.forIn_toList, List.forIn_cons, List.forIn_nil, run_sizeOf size3, run_sizeOf size5, part, run_isAgg kind3, run_isAgg kind5, Bool.false_eq_true, if_false, if_true]
 simp [key3, key5]
theorem keyOkP (v : Vs) (q : List Vs) : KeyOk Tryz.prog 102 (keyP v) (metP q) where
 chk := key102 _ _ _
 cmp := by
  unfold keyP
  kernel_rfl
 kind := by kernel_rfl
 size := by
  unfold keyP
  kernel_rfl
 like := fun e he => by
  obtain ⟨p, _, hp⟩ := List.mem_map.1 he
  rw [<- hp]
  rfl
set_option maxHeartbeats 64000000
theorem numbered_facts {g : Glob} (h : numbered g = true) : 1 <= g.states /\ g.states <= 200 /\ 0 <= g.start /\ g.start < g.states /\ 0 <= g.end_ /\ g.end_ < g.states /\ ∀ x ∈ g.edges, okEdge g x = true := by
 simp only [numbered, stateB, Bool.and_eq_true, decide_eq_true_eq, List.all_eq_true] at h
 obtain ⟨⟨⟨⟨⟨h1, h2⟩, h3⟩, h4⟩, h5⟩, h6⟩ := h
 exact ⟨h1, h2, h3.1, h3.2, h4.1, h4.2, h6⟩
theorem okEdge_facts {g : Glob} {x : Edg} (h : okEdge g x = true) : 0 <= x.from_ /\ x.from_ < g.states /\ 0 <= x.to /\ x.to < g.states := by
 simp only [okEdge, stateB, Bool.and_eq_true, decide_eq_true_eq] at h
 omega
def endsStep (n : Nat) (D : List Int) (x : Edg) : List Int := if D[x.to.toNat]?.getD 0 = n /\ D[x.from_.toNat]?.getD 0 < 0 then D.set x.from_.toNat (n + 1) else D
def endsRound (es : List Edg) (D : List Int) (n : Nat) : List Int := es.foldl (endsStep n) D
def endsOf (g : Glob) : List Int := (List.range g.states.toNat).foldl (endsRound g.edges) ((List.replicate g.states.toNat (-1)).set g.end_.toNat 0)
theorem endsStep_len (n : Nat) (D : List Int) (x : Edg) : (endsStep n D x).length = D.length := by
 unfold endsStep
 split <;> simp
theorem foldl_len {α : Type} (f : List Int -> α -> List Int) (hf : ∀ D a, (f D a).length = D.length) : ∀ (l : List α) (D : List Int), (l.foldl f D).length = D.length
 | [], D => rfl
 | a :: l, D => by rw [List.foldl_cons, foldl_len f hf l, hf]
theorem endsRound_len (es : List Edg) (D : List Int) (n : Nat) : (endsRound es D n).length = D.length := foldl_len _ (fun D x => endsStep_len n D x) es D
theorem foldl_take {α β : Type} (f : β -> α -> β) (b : β) {l : List α} {k : Nat} (h : k < l.length) : (l.take (k + 1)).foldl f b = f ((l.take k).foldl f b) l[k] := by
 rw [List.take_succ_eq_append_getElem h, List.foldl_append]
 rfl
theorem foldl_range {β : Type} (f : β -> Nat -> β) (b : β) (k : Nat) : (List.range (k + 1)).foldl f b = f ((List.range k).foldl f b) k := by
 rw [List.range_succ, List.foldl_append]
 rfl
def negTo (N k : Nat) : List Int := List.replicate k (-1) ++ List.replicate (N - k) 0
theorem negTo_len {N k : Nat} (h : k <= N) : (negTo N k).length = N := by simp [negTo]; omega
theorem negTo_full (N : Nat) : negTo N N = List.replicate N (-1) := by simp [negTo]
theorem negTo_set {N k : Nat} (h : k < N) : (negTo N k).set k (-1) = negTo N (k + 1) := by
 unfold negTo
 rw [show N - k = (N - (k + 1)) + 1 by omega, List.replicate_succ, List.set_append_right _ _ (by simp)]
 simp [List.replicate_succ', List.append_assoc]
theorem f83 (g : Glob) (hs : Small g) (hn : numbered g = true) : Impl Tryz.prog 83 [.ag (encG g)] (.one (.one (.ow 1 ((endsOf g).map encN)))) := by
 obtain ⟨s1, s2, s3, s4, s5, s6⟩ := hs
 obtain ⟨n1, n2, n3, n4, n5, n6, n7⟩ := numbered_facts hn
 refine impl_intro z83.f z83.b rfl z83.r z83.n z83.t z83.d (by simp) fun hs => ?_
 clear hs s3 s4
 simp only [slotsOf]
 conv => arg 2; reduce
 obtain ⟨N, hN⟩ : ∃ N : Nat, g.states = N := ⟨g.states.toNat, by omega⟩
 obtain ⟨E, hE⟩ : ∃ E : Nat, g.end_ = E := ⟨g.end_.toNat, by omega⟩
 have hN2 : g.states.toNat = N := by omega
 have hE2 : g.end_.toNat = E := by omega
 have hEN : E < N := by omega
 refine wX (aN encG.eq_1 hN) ?_
 refine z_k (fun n e => ∃ k : Nat, k + n = N /\ e = [(4, .sv (.one (.int .i64 k))), (3, .sv (.one (.ow 1 ((negTo N k).map encN)))), (1, .sv (.one (.bx (encG g))))]) N _ ⟨0, by simp, rfl⟩ (by simp [go_sem, encG, encN, hN, negTo]) ?_
 rintro n e ⟨k, hk, rfl⟩
 by_cases hlt : k < N
 ·have hset : ((negTo N k).map encN).set k [.int .i64 (-1)] = (negTo N (k + 1)).map encN := by
   rw [show [DV.int .i64 (-1)] = encN (-1) from rfl, <- List.map_set, negTo_set hlt]
  have hl := negTo_len (show k <= N by omega)
  refine wX (aN hlt <| aN encG.eq_1 <| aN hN <| aN encN.eq_1 hl) ?_
  refine z_j (n - 1) _ (by omega) ⟨k + 1, by omega, rfl⟩ ?_
  simp [go_sem, encG, hN, encN, hset]
 ·have hke : k = N := by omega
  subst hke
  have hl := negTo_len (Nat.le_refl k)
  obtain ⟨D0, hD0⟩ : ∃ D0, D0 = (negTo k k).set E 0 := ⟨_, rfl⟩
  have hset : ((negTo k k).map encN).set E [.int .i64 0] = D0.map encN := by
   rw [show [DV.int .i64 0] = encN 0 from rfl, <- List.map_set, hD0]
  have hD0l : D0.length = k := by rw [hD0, List.length_set, hl]
  have hfin : endsOf g = (List.range k).foldl (endsRound g.edges) D0 := by
   unfold endsOf
   rw [hN2, hE2, hD0, negTo_full]
  refine wX (aN hlt <| aN encG.eq_1 <| aN hN <| aN hE <| aN encN.eq_1 <| aN hl <| aN hEN hset) ?_
  refine z_k (fun n e => ∃ r : Nat, r + n = k /\ e = [(5, .sv (.one (.int .i64 r))), (3, .sv (.one (.ow 1 (((List.range r).foldl (endsRound g.edges) D0).map encN)))), (1, .sv (.one (.bx (encG g))))]) k _ ⟨0, by simp, rfl⟩ (by simp [go_sem, encG, encN, hN, hE]) ?_
  rintro n2 e ⟨r, hr, rfl⟩
  obtain ⟨D1, hD1⟩ : ∃ D1, D1 = (List.range r).foldl (endsRound g.edges) D0 := ⟨_, rfl⟩
  have hD1l : D1.length = k := by rw [hD1, foldl_len _ (endsRound_len g.edges), hD0l]
  rw [<- hD1]
  by_cases hrk : r < k
  ·refine wX (aN hrk <| aN encG.eq_1 hN) ?_
   refine z_k (fun n e => ∃ i : Nat, i + n = g.edges.length /\ e = [(6, .sv (.one (.int .i64 i))), (5, .sv (.one (.int .i64 r))), (3, .sv (.one (.ow 1 (((g.edges.take i).foldl (endsStep r) D1).map encN)))), (1, .sv (.one (.bx (encG g))))]) g.edges.length _ ⟨0, by simp, rfl⟩ (by simp only [List.take_zero, List.foldl_nil]; simp [go_sem, encG, hN]) ?_
   rintro n3 e ⟨i, hi, rfl⟩
   obtain ⟨D, hD⟩ : ∃ D, D = (g.edges.take i).foldl (endsStep r) D1 := ⟨_, rfl⟩
   have hDl : D.length = k := by rw [hD, foldl_len _ (endsStep_len r), hD1l]
   rw [<- hD]
   by_cases hil : i < g.edges.length
   ·obtain ⟨x, hx⟩ : ∃ x, g.edges[i] = x := ⟨_, rfl⟩
    have hxe := okEdge_facts (n7 g.edges[i] (List.getElem_mem hil))
    have hstep := foldl_take (endsStep r) D1 hil
    rw [hx] at hxe hstep
    rw [<- hD] at hstep
    obtain ⟨a, ha⟩ : ∃ a : Nat, x.from_ = a := ⟨x.from_.toNat, by omega⟩
    obtain ⟨b, hb⟩ : ∃ b : Nat, x.to = b := ⟨x.to.toNat, by omega⟩
    have hal : a < D.length := by omega
    have hbl : b < D.length := by omega
    have hst : endsStep r D x = if D[b] = (r : Int) /\ D[a] < 0 then D.set a ((r : Int) + 1) else D := by
     unfold endsStep
     rw [ha, hb]
     simp [hal, hbl]
    by_cases hc1 : D[b] = (r : Int)
    ·by_cases hc2 : D[a] < 0
     ·rw [if_pos ⟨hc1, hc2⟩] at hst
      obtain ⟨D', hD'⟩ : ∃ D', D.set a ((r : Int) + 1) = D' := ⟨_, rfl⟩
      rw [hD'] at hst
      have hset2 : (D.map encN).set a [.int .i64 ((r : Int) + 1)] = D'.map encN := by
       rw [show [DV.int .i64 ((r : Int) + 1)] = encN ((r : Int) + 1) from rfl, <- List.map_set, hD']
      refine wX (aN hil <| aN hx <| aN ha <| aN hb <| aN hal <| aN hbl <| aN hc1 <| aN hc2 <| aN encG.eq_1 <| aN hN <| aN encN.eq_1 <| aN encEd.eq_1 hset2) ?_
      refine z_j (n3 - 1) _ (by omega) ⟨i + 1, by omega, rfl⟩ ?_
      rw [hstep, hst]
      simp [go_sem, encG, hN, encN]
     ·rw [if_neg (fun h => hc2 h.2)] at hst
      refine wX (aN hil <| aN hx <| aN ha <| aN hb <| aN hal <| aN hbl <| aN hc1 <| aN hc2 <| aN encG.eq_1 <| aN hN <| aN encN.eq_1 encEd.eq_1) ?_
      refine z_j (n3 - 1) _ (by omega) ⟨i + 1, by omega, rfl⟩ ?_
      rw [hstep, hst]
      simp [go_sem, encG, hN, encN]
    ·rw [if_neg (fun h => hc1 h.1)] at hst
     repeat' first | refine St.go ?_ | ((with_reducible refine cn ?_ ?_) <;> intro h <;> (try simp at h) <;> try omega) | (refine Ru.go ?_; intro K hK; simp [go_sem, hil, hx, ha, hb, hal, hbl, hc1, encG, hN, encN, encEd]; (try simp (disch := omega) only [wx, z_i]); (first | apply hK | refine ⟨by first | omega | (simp [z_f, z_g, hil, hx, ha, hb, hal, hbl, hc1, encG, hN, encN, encEd]; first | done | omega), ?_⟩ | refine ⟨hK _ ?_, fun h => ?_⟩ | refine ⟨?_, ?_⟩); all_goals ((try apply hK); clear hK K))
     refine z_j (n3 - 1) _ (by omega) ⟨i + 1, by omega, rfl⟩ ?_
     rw [hstep, hst]
     simp [go_sem, encG, hN, encN]
   ·have hie : i = g.edges.length := by omega
    have hrd : D = endsRound g.edges D1 r := by
     rw [hD, hie, List.take_length]
     rfl
    refine wX (aN hil <| aN encG.eq_1 hN) ?_
    refine z_j (n2 - 1) _ (by omega) ⟨r + 1, by omega, rfl⟩ ?_
    rw [foldl_range, <- hD1, <- hrd]
    simp [go_sem, encG, hN]
  ·have hre : r = k := by omega
   refine wX (aN hrk <| aN encG.eq_1 hN) ?_
   rw [hfin, <- hre, <- hD1]
   simp [go_sem]
set_option maxHeartbeats 64000000
def beforeE (es : List Edg) (i k : Nat) : Bool := match es[i]?, es[k]? with
 | some x, some y => if x.act.to ≠ y.act.to then decide (x.act.to < y.act.to) else if x.act.label ≠ y.act.label then decide (x.act.label < y.act.label) else decide (i < k)
 | _, _ => false
theorem f119 (g : Glob) (i k : Nat) (hi : i < g.edges.length) (hk : k < g.edges.length) : Impl Tryz.prog 119 [.ag (encG g), .one (.int .i64 i), .one (.int .i64 k)] (.one (.one (.bool (beforeE g.edges i k)))) := by
 refine impl_v ?_
 obtain ⟨x, hx⟩ : ∃ x, g.edges[i] = x := ⟨_, rfl⟩
 obtain ⟨y, hy⟩ : ∃ y, g.edges[k] = y := ⟨_, rfl⟩
 have hb : beforeE g.edges i k = if x.act.to ≠ y.act.to then decide (x.act.to < y.act.to) else if x.act.label ≠ y.act.label then decide (x.act.label < y.act.label) else decide (i < k) := by
  unfold beforeE
  rw [List.getElem?_eq_getElem hi, List.getElem?_eq_getElem hk, hx, hy]
 by_cases h1 : x.act.to = y.act.to
 ·by_cases h2 : x.act.label = y.act.label
  ·rw [if_neg (fun h => h h1), if_neg (fun h => h h2)] at hb
   refine wX (aN hi <| aN hk <| aN hx <| aN hy <| aN encG.eq_1 <| aN encEd.eq_1 <| aN h1 h2) ?_
   simp [go_sem, hb]
  ·rw [if_neg (fun h => h h1), if_pos h2] at hb
   refine wX (aN hi <| aN hk <| aN hx <| aN hy <| aN encG.eq_1 <| aN encEd.eq_1 <| aN h1 h2) ?_
   simp [go_sem, hb]
 ·rw [if_pos h1] at hb
  refine wX (aN hi <| aN hk <| aN hx <| aN hy <| aN encG.eq_1 <| aN encEd.eq_1 h1) ?_
  simp [go_sem, hb]
def insPos (es : List Edg) (out : List Nat) (i : Nat) : Nat := (out.takeWhile fun j => beforeE es j i).length
def insE (es : List Edg) (out : List Nat) (i : Nat) : List Nat := out.take (insPos es out i) ++ i :: out.drop (insPos es out i)
def edgesStep (es : List Edg) (s : Int) (out : List Nat) (i : Nat) : List Nat := match es[i]? with
 | some x => if x.from_ = s then insE es out i else out
 | none => out
def edgesOf (es : List Edg) (s : Int) : List Nat := (List.range es.length).foldl (edgesStep es s) []
theorem insPos_le (es : List Edg) (out : List Nat) (i : Nat) : insPos es out i <= out.length := by
 unfold insPos
 exact (List.takeWhile_prefix _).length_le
theorem insE_len (es : List Edg) (out : List Nat) (i : Nat) : (insE es out i).length = out.length + 1 := by
 have := insPos_le es out i
 simp [insE]
 omega
theorem insPos_lt {es : List Edg} {out : List Nat} {i k : Nat} (h0 : ∀ j (h : j < out.length), j < k -> beforeE es out[j] i = true) (hk : k < out.length) (h1 : beforeE es out[k] i = false) : insPos es out i = k := by
 unfold insPos
 rw [<- List.take_append_drop k out, List.takeWhile_append_of_pos, List.drop_eq_getElem_cons hk, List.takeWhile_cons_of_neg (by simp [h1])]
 ·simp; omega
 ·intro a ha
  obtain ⟨j, hj, rfl⟩ := List.mem_iff_getElem.1 ha
  rw [List.length_take] at hj
  rw [List.getElem_take]
  exact h0 j (by omega) (by omega)
theorem insPos_all {es : List Edg} {out : List Nat} {i : Nat} (h0 : ∀ j (h : j < out.length), beforeE es out[j] i = true) : insPos es out i = out.length := by
 unfold insPos
 have key : ∀ (l : List Nat), (∀ a ∈ l, beforeE es a i = true) -> l.takeWhile (fun j => beforeE es j i) = l := by
  intro l
  induction l with
  | nil => intro _; rfl
  | cons a l ih =>
    intro h
    rw [List.takeWhile_cons, h a (by simp), if_pos rfl, ih fun b hb => h b (by simp [hb])]
 rw [key out fun a ha => by
  obtain ⟨j, hj, rfl⟩ := List.mem_iff_getElem.1 ha
  exact h0 j hj]
theorem edgesStep_mem {es : List Edg} {s : Int} {out : List Nat} {i N : Nat} (h : ∀ j ∈ out, j < N) (hi : i < N) : ∀ j ∈ edgesStep es s out i, j < N := by
 intro j hj
 unfold edgesStep at hj
 split at hj
 ·split at hj
  ·unfold insE at hj
   rcases List.mem_append.1 hj with hj | hj
   ·exact h j (List.mem_of_mem_take hj)
   ·rcases List.mem_cons.1 hj with rfl | hj
    ·exact hi
    ·exact h j (List.mem_of_mem_drop hj)
  ·exact h j hj
 ·exact h j hj
theorem edges_mem {es : List Edg} {s : Int} {N : Nat} : ∀ k, k <= N -> ∀ j ∈ (List.range k).foldl (edgesStep es s) [], j < N
 | 0, _ => by simp
 | k + 1, h => by
   rw [foldl_range]
   exact edgesStep_mem (edges_mem k (by omega)) (by omega)
theorem edgesStep_len (es : List Edg) (s : Int) (out : List Nat) (i : Nat) : (edgesStep es s out i).length <= out.length + 1 := by
 unfold edgesStep
 split
 ·split
  ·rw [insE_len]; omega
  ·omega
 ·omega
theorem edges_len {es : List Edg} {s : Int} : ∀ k, ((List.range k).foldl (edgesStep es s) []).length <= k
 | 0 => by simp
 | k + 1 => by
   have ih := edges_len (es := es) (s := s) k
   have := edgesStep_len es s ((List.range k).foldl (edgesStep es s) []) k
   rw [foldl_range]
   omega
def encK (k : Nat) : List DV := [.int .i64 (k : Int)]
end Go.Av

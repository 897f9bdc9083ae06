/- Part of a proof. -/
import Derived.Test.YticeobjphcmggaaGreatDoorAvR
import Derived.Test.YticeobjphcmggaaGreatDoorB19
import Derived.Test.YticeobjphcmggaaGreatDoorB02
import Derived.Test.YticeobjphcmggaaGreatDoorB00
import Derived.Test.YticeobjphcmggaaGreatDoorB07
set_option linter.unusedVariables false
set_option linter.unusedSimpArgs false
set_option maxHeartbeats 64000000
set_option maxRecDepth 8000
namespace Go.Av
open Go Go.RowKit Go.Proofs
set_option maxHeartbeats 64000000
def exD : List Dcl := [⟨⟨#[120]⟩, [], 0, [], []⟩, ⟨⟨#[121]⟩, [], 0, [], []⟩]
theorem exD_valid : validD exD = true := by kernel_rfl
theorem exD_all : allF exD = [] := rfl
theorem exD_enc : exD.map encD = [[.str ⟨#[120]⟩, .sl [], .int .i64 0, .sl [], .sl []], [.str ⟨#[121]⟩, .sl [], .int .i64 0, .sl [], .sl []]] := rfl
theorem f115n : Impl Tryz.prog 115 [.one (.sl [])] (.one (.one (.ow 3 []))) := f115 [] (by simp)
theorem f91n (nm : ByteArray) : Impl Tryz.prog 91 [.ag [.str nm, .sl [], .int .i64 0, .sl [], .sl []], .one (.sl []), .one (.sl [])] (.one (.one (.ow 3 []))) := by
 have k115 := f115n
 refine impl_v ?_
 refine wC k115 ?_
 simp [go_sem]
theorem f90n : Impl Tryz.prog 90 [.one (.sl []), .one (.sl [])] (.one (.one (.bool true))) := by
 refine impl_v ?_
 refine wN ?_
 refine z_k (fun n e => n = 0 /\ e = [(14, .sv (.one (.int .i64 0))), (13, .sv (.one (.int .i64 0)))]) 0 _ ⟨rfl, rfl⟩ (by simp [go_sem]) ?_
 rintro n e ⟨_, rfl⟩
 refine wN ?_
 simp [go_sem]
theorem f89n (k : Int) (hk : k = 0 \/ k = 1) : Impl Tryz.prog 89 [.one (.sl (exD.map encD)), .one (.int .i64 k), .one (.sl [])] (.one (.one (.bool true))) := by
 have k112 := f112 exD (by decide) (by simp [exD])
 have k113 := f113 exD (by decide) (by simp [exD])
 rw [exD_valid] at k112
 rw [exD_all] at k113
 simp only [List.map_nil] at k113
 rw [exD_enc] at k112 k113 ⊢
 have h1 : ¬ k < 0 := by omega
 have h2 : ¬ 2 <= k := by omega
 refine impl_v ?_
 refine wV (aN h1 h2) (aN k112 k113) ?_
 refine z_k (fun n e => n = 0 /\ e = [(32, .sv (.one (.int .i64 0))), (31, .sv (.one (.int .i64 0)))]) 0 _ ⟨rfl, rfl⟩ (by simp [go_sem]) ?_
 rintro n e ⟨_, rfl⟩
 refine wN ?_
 simp [go_sem]
theorem f57n (k : Int) (hk : k = 0 \/ k = 1) : Impl Tryz.prog 57 [.one (.sl (exD.map encD)), .one (.int .i64 k), .one (.sl []), .one (.sl [])] (.tup [.one (.ow 3 []), .one (.int .i64 0)]) := by
 have k89 := f89n k hk
 have k90 := f90n
 have k91 := f91n
 rw [exD_enc] at k89 ⊢
 refine impl_v ?_
 rcases hk with rfl | rfl
 ·refine wC (aN k89 <| aN k90 (fun {x0_} => k91 x0_)) ?_
  simp [go_sem]
 ·refine wC (aN k89 <| aN k90 (fun {x0_} => k91 x0_)) ?_
  simp [go_sem]
theorem f92n : Impl Tryz.prog 92 [.ag [.sl [], .sl []], .one (.sl [])] (.one (.one (.bool true))) := by
 refine impl_v ?_
 refine wN ?_
 refine z_k (fun n e => n = 0 /\ e = [(15, .sv (.one (.int .i64 0))), (14, .sv (.one (.int .i64 0))), (2, .sv (.one (.bx [.sl [], .sl []])))]) 0 _ ⟨rfl, rfl⟩ (by simp [go_sem]) ?_
 rintro n e ⟨_, rfl⟩
 refine wN ?_
 refine z_k (fun n e => n = 0 /\ e = [(57, .sv (.one (.int .i64 0))), (56, .sv (.one (.int .i64 0)))]) 0 _ ⟨rfl, rfl⟩ (by simp [go_sem]) ?_
 rintro n e ⟨_, rfl⟩
 refine wN ?_
 simp [go_sem]
theorem f60n (k : Int) (hk : k = 0 \/ k = 1) : Impl Tryz.prog 60 [.one (.sl (exD.map encD)), .one (.int .i64 k), .one (.sl []), .one (.sl [])] (.one (.one (.bool true))) := by
 have k89 := f89n k hk
 have k90 := f90n
 have k91 := f91n
 have k92 := f92n
 rw [exD_enc] at k89 ⊢
 refine impl_v ?_
 rcases hk with rfl | rfl
 ·refine wC (aN k89 <| aN k90 <| aN (fun {x0_} => k91 x0_) k92) ?_
  simp [go_sem]
 ·refine wC (aN k89 <| aN k90 <| aN (fun {x0_} => k91 x0_) k92) ?_
  simp [go_sem]
theorem f58n (x : Ev) (p : Int) (hp : x.peer ≠ p) : Impl Tryz.prog 58 [.one (.sl [encE x]), .one (.int .i64 p), .one (.int .i64 0)] (.tup [.one .nil, .one (.bool false)]) := by
 refine impl_v ?_
 refine wN ?_
 refine z_k (fun n e => ∃ k : Nat, k + n = 1 /\ e = [(12, .sv (.one (.int .i64 k))), (11, .sv (.one (.int .i64 1))), (10, .sv (.one (.sl [encE x]))), (1, .sv (.one (.int .i64 p)))]) 1 _ ⟨0, by simp, rfl⟩ (by simp [go_sem]) ?_
 rintro n e ⟨k, hk, rfl⟩
 have hpb : (x.peer == p) = false := by simpa using hp
 by_cases hlt : k < 1
 ·have hk0 : k = 0 := by omega
  subst hk0
  cases hsd : x.send with
  | true =>
    refine wX (aN hsd <| aN hp <| aN hpb encE.eq_1) ?_
    refine z_j (n - 1) _ (by omega) ⟨1, by omega, rfl⟩ ?_
    simp [go_sem, encE, hsd]
  | false =>
    refine wX (aN hsd <| aN hp <| aN hpb encE.eq_1) ?_
    refine z_j (n - 1) _ (by omega) ⟨1, by omega, rfl⟩ ?_
    simp [go_sem, encE, hsd]
 ·have hk1 : k = 1 := by omega
  subst hk1
  refine wN ?_
  simp [go_sem]
set_option maxHeartbeats 64000000
def less (a b : Inter) : Bool := if a.from_ ≠ b.from_ then decide (a.from_ < b.from_) else if a.to ≠ b.to then decide (a.to < b.to) else decide (a.label < b.label)
def ev1 (role : Int) (x : Inter) : List Ev := (if x.from_ = role then [⟨role, true, x.to, x.label, none⟩] else []) ++ (if x.to = role then [⟨role, false, x.from_, x.label, none⟩] else [])
def project (l : List Inter) (role : Int) : List Ev := l.flatMap (ev1 role)
theorem project_succ {l : List Inter} {k : Nat} (h : k < l.length) (role : Int) : project (l.take (k + 1)) role = project (l.take k) role ++ ev1 role l[k] := by
 unfold project
 rw [List.take_succ_eq_append_getElem h, List.flatMap_append]
 simp only [List.flatMap_cons, List.flatMap_nil, List.append_nil]
theorem ev1_len (role : Int) (x : Inter) : (ev1 role x).length <= 2 := by
 unfold ev1; split <;> split <;> simp
theorem project_len (role : Int) : ∀ (l : List Inter), (project l role).length <= 2 * l.length
 | [] => by simp [project]
 | x :: l => by
   have h1 := ev1_len role x
   have h2 := project_len role l
   simp only [project, List.flatMap_cons, List.length_append, List.length_cons] at *
   omega
theorem project_vals (l : List Inter) (role : Int) : ∀ x ∈ project l role, x.vals = none := by
 intro x hx
 unfold project at hx
 obtain ⟨y, _, hy⟩ := List.mem_flatMap.1 hx
 unfold ev1 at hy
 rcases List.mem_append.1 hy with hy | hy
 ·split at hy
  ·simp only [List.mem_singleton] at hy; rw [hy]
  ·cases hy
 ·split at hy
  ·simp only [List.mem_singleton] at hy; rw [hy]
  ·cases hy
@[go_sem] theorem clo_project (l : List Inter) (role : Int) : clo ((project l role).map encE) ↔ True := by
 simp only [iff_true]
 exact clo_encE (project_vals l role)
theorem f20 (l : List Inter) (role : Int) (hl : l.length <= 1000000) : Impl Tryz.prog 20 [.one (.sl (l.map encI)), .one (.int .i64 role)] (.one (.one (.ow 5 ((project l role).map encE)))) := by
 refine impl_v ?_
 refine wN ?_
 refine z_k (fun n e => ∃ k, k + n = l.length /\ e = [(10, .sv (.one (.int .i64 (k : Nat)))), (9, .sv (.one (.int .i64 l.length))), (8, .sv (.one (.sl (l.map encI)))), (5, .sv (.one (.ow 5 ((project (l.take k) role).map encE)))), (1, .sv (.one (.int .i64 role)))]) l.length _ ⟨0, by simp, rfl⟩ (by simp [go_sem, project]) ?_
 rintro n e ⟨k, hk, rfl⟩
 have hlen := project_len role (l.take k)
 have hlk : (l.take k).length <= k := List.length_take_le _ _
 by_cases hlt : k < l.length
 ·skip
  repeat' first | refine St.go ?_ | ((with_reducible refine cn ?_ ?_) <;> intro h <;> (try simp at h) <;> try omega) | (refine Ru.go ?_; intro K hK; simp [go_sem, hlt, encI]; (try simp (disch := omega) only [wx, z_i]); (first | apply hK | refine ⟨by first | omega | (simp [z_f, z_g, hlt, encI, maxLen, DV.flat]; first | done | omega), ?_⟩ | refine ⟨hK _ ?_, fun h => ?_⟩ | refine ⟨?_, ?_⟩); all_goals ((try apply hK); clear hK K))
  all_goals refine z_j (n - 1) _ (by omega) ⟨k + 1, by omega, rfl⟩ ?_
  all_goals simp [go_sem, project_succ hlt, ev1, encE, valsDV, *]
 ·have hkl : l.take k = l := List.take_of_length_le (by omega)
  refine wX hlt ?_
  simp [go_sem, hkl]
end Go.Av

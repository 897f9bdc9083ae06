/- fit.Values at the law's example. -/
import Derived.Test.YticeobjphcmggaaGreatDoorAvR
import Derived.Test.YticeobjphcmggaaGreatDoorB20
set_option linter.unusedVariables false
set_option linter.unusedSimpArgs false
set_option maxHeartbeats 64000000
set_option maxRecDepth 8000
namespace Go.Av
open Go Go.RowKit Go.Proofs
set_option maxHeartbeats 64000000
def exG : Glob := ⟨⟨#[80]⟩, [⟨#[65]⟩, ⟨#[66]⟩, ⟨#[67]⟩], exD, 3, 0, 2, [⟨0, ⟨0, 1, 0⟩, 1, false⟩, ⟨1, ⟨0, 2, 1⟩, 2, false⟩], []⟩
def ev0 : Ev := ⟨0, true, 1, 0, none⟩
def ev2 : Ev := ⟨2, false, 0, 1, none⟩
def exH : List (List Ev) := [[ev0], [], [ev2]]
def dE : List (List DV) := [[.str ⟨#[120]⟩, .sl [], .int .i64 0, .sl [], .sl []], [.str ⟨#[121]⟩, .sl [], .int .i64 0, .sl [], .sl []]]
def gE : List (List DV) := [[.int .i64 0, .int .i64 0, .int .i64 1, .int .i64 0, .int .i64 1, .bool false], [.int .i64 1, .int .i64 0, .int .i64 2, .int .i64 1, .int .i64 2, .bool false]]
def hE : List (List DV) := [[.sl [[.int .i64 0, .bool true, .int .i64 1, .int .i64 0, .nil]]], [.sl []], [.sl [[.int .i64 2, .bool false, .int .i64 0, .int .i64 1, .nil]]]]
theorem exG_enc : encG exG = [.str ⟨#[80]⟩, .sl [[.str ⟨#[65]⟩], [.str ⟨#[66]⟩], [.str ⟨#[67]⟩]], .sl dE, .int .i64 3, .int .i64 0, .int .i64 2, .sl gE, .sl []] := rfl
theorem exH_enc : exH.map encH = hE := rfl
theorem exD_dE : exD.map encD = dE := rfl
theorem search_ex : searchF exG exH = (some [0, 1], 0) := by kernel_rfl
theorem next_ex : nextV exG exH 0 = (some [⟨0, true, 2, 1, none⟩], 0) := by kernel_rfl
theorem f34a : Impl Tryz.prog 34 [.ag (encG exG), .one (.sl (exH.map encH)), .one (.int .i64 0), .one (.sl [[.bool false], [.bool false]])] (.one (.one (.int .i64 0))) := by
 have k57 := f57n 0 (.inl rfl)
 have k60 := f60n 0 (.inl rfl)
 rw [exD_dE] at k57 k60
 rw [exG_enc, exH_enc]
 refine impl_v ?_
 refine z_l [(8, .sv (.one (.int .i64 0))), (4, .sv (.one (.bx [.str ⟨#[80]⟩, .sl [[.str ⟨#[65]⟩], [.str ⟨#[66]⟩], [.str ⟨#[67]⟩]], .sl dE, .int .i64 3, .int .i64 0, .int .i64 2, .sl gE, .sl []]))), (3, .sv (.one (.sl [[.bool false], [.bool false]]))), (2, .sv (.one (.int .i64 0))), (1, .sv (.one (.sl hE)))] ?_ ?_
 ·refine wN ?_
  refine z_m ?_
  simp [go_sem]
 refine z_l [(9, .sv (.one (.int .i64 0))), (8, .sv (.one (.int .i64 0))), (4, .sv (.one (.bx [.str ⟨#[80]⟩, .sl [[.str ⟨#[65]⟩], [.str ⟨#[66]⟩], [.str ⟨#[67]⟩]], .sl dE, .int .i64 3, .int .i64 0, .int .i64 2, .sl gE, .sl []]))), (3, .sv (.one (.sl [[.bool false], [.bool false]]))), (2, .sv (.one (.int .i64 0))), (1, .sv (.one (.sl hE)))] ?_ ?_
 ·refine wN ?_
  refine z_m ?_
  simp [go_sem]
 refine z_l [(9, .sv (.one (.int .i64 0))), (8, .sv (.one (.int .i64 0))), (4, .sv (.one (.bx [.str ⟨#[80]⟩, .sl [[.str ⟨#[65]⟩], [.str ⟨#[66]⟩], [.str ⟨#[67]⟩]], .sl dE, .int .i64 3, .int .i64 0, .int .i64 2, .sl gE, .sl []]))), (3, .sv (.one (.sl [[.bool false], [.bool false]]))), (2, .sv (.one (.int .i64 0))), (1, .sv (.one (.sl hE)))] ?_ ?_
 ·have hd2 : dE.length = 2 := rfl
  refine wX hd2 ?_
  refine z_k (fun n e => ∃ k : Nat, k + n = 2 /\ e = [(23, .sv (.one (.int .i64 k))), (22, .sv (.one (.int .i64 2))), (21, .sv (.one (.sl dE))), (9, .sv (.one (.int .i64 0))), (8, .sv (.one (.int .i64 0))), (4, .sv (.one (.bx [.str ⟨#[80]⟩, .sl [[.str ⟨#[65]⟩], [.str ⟨#[66]⟩], [.str ⟨#[67]⟩]], .sl dE, .int .i64 3, .int .i64 0, .int .i64 2, .sl gE, .sl []]))), (3, .sv (.one (.sl [[.bool false], [.bool false]]))), (2, .sv (.one (.int .i64 0))), (1, .sv (.one (.sl hE)))]) 2 _ ⟨0, by simp, rfl⟩ (by simp [go_sem]) ?_
  rintro n e ⟨k, hk, rfl⟩
  by_cases h0 : k = 0
  ·subst h0
   refine wX dE.eq_1 ?_
   refine z_j (n - 1) _ (by omega) ⟨1, by omega, rfl⟩ ?_
   simp [go_sem, dE]
  ·by_cases h1 : k = 1
   ·subst h1
    refine wX dE.eq_1 ?_
    refine z_j (n - 1) _ (by omega) ⟨2, by omega, rfl⟩ ?_
    simp [go_sem, dE]
   ·have h2 : k = 2 := by omega
    subst h2
    refine wN ?_
    refine z_m ?_
    simp [go_sem]
 refine z_l [(12, .sv (.one (.ow 3 []))), (8, .sv (.one (.int .i64 0))), (4, .sv (.one (.bx [.str ⟨#[80]⟩, .sl [[.str ⟨#[65]⟩], [.str ⟨#[66]⟩], [.str ⟨#[67]⟩]], .sl dE, .int .i64 3, .int .i64 0, .int .i64 2, .sl gE, .sl []]))), (3, .sv (.one (.sl [[.bool false], [.bool false]]))), (2, .sv (.one (.int .i64 0))), (1, .sv (.one (.sl hE)))] ?_ ?_
 ·refine wN ?_
  refine z_m ?_
  simp [go_sem]
 refine z_l [(13, .sv (.one (.ow 1 [[.int .i64 0], [.int .i64 0], [.int .i64 0]]))), (12, .sv (.one (.ow 3 []))), (8, .sv (.one (.int .i64 0))), (4, .sv (.one (.bx [.str ⟨#[80]⟩, .sl [[.str ⟨#[65]⟩], [.str ⟨#[66]⟩], [.str ⟨#[67]⟩]], .sl dE, .int .i64 3, .int .i64 0, .int .i64 2, .sl gE, .sl []]))), (3, .sv (.one (.sl [[.bool false], [.bool false]]))), (2, .sv (.one (.int .i64 0))), (1, .sv (.one (.sl hE)))] ?_ ?_
 ·refine wX hE.eq_1 ?_
  refine z_m ?_
  simp [go_sem, hE, List.replicate_succ]
 refine wX hE.eq_1 ?_
 refine z_k (fun n e => (n = 1 /\ e = [(43, .sv (.one (.int .i64 0))), (42, .sv (.one (.int .i64 1))), (41, .sv (.one (.sl [[.int .i64 0, .bool true, .int .i64 1, .int .i64 0, .nil]]))), (13, .sv (.one (.ow 1 [[.int .i64 0], [.int .i64 0], [.int .i64 0]]))), (12, .sv (.one (.ow 3 []))), (8, .sv (.one (.int .i64 0))), (4, .sv (.one (.bx [.str ⟨#[80]⟩, .sl [[.str ⟨#[65]⟩], [.str ⟨#[66]⟩], [.str ⟨#[67]⟩]], .sl dE, .int .i64 3, .int .i64 0, .int .i64 2, .sl gE, .sl []]))), (3, .sv (.one (.sl [[.bool false], [.bool false]]))), (2, .sv (.one (.int .i64 0))), (1, .sv (.one (.sl hE)))]) \/ (n = 0 /\ e = [(43, .sv (.one (.int .i64 1))), (42, .sv (.one (.int .i64 1)))])) 1 _ (.inl ⟨rfl, rfl⟩) (by simp [go_sem, hE]) ?_
 rintro n e (⟨rfl, rfl⟩ | ⟨rfl, rfl⟩)
 ·skip
  repeat' first | refine St.go ?_ | ((with_reducible refine cn ?_ ?_) <;> intro h <;> (try simp at h) <;> try omega) | (refine Ru.go ?_; intro K hK; simp [go_sem]; (try simp (disch := omega) only [wx, z_i]); (first | apply hK | ((first | ((try refine .inl ?_); refine ⟨_, by (try intro hc); (repeat' first | exact k57 | exact k60 | exact hc | refine And.intro ?_ ?_ | simp [go_sem]); first | done | omega, ?_⟩) | refine .inr (.inl ⟨_, by (try intro hc); (repeat' first | exact k57 | exact k60 | exact hc | refine And.intro ?_ ?_ | simp [go_sem]); first | done | omega, ?_⟩) | refine .inr (.inr ⟨_, by (try intro hc); (repeat' first | exact k57 | exact k60 | exact hc | refine And.intro ?_ ?_ | simp [go_sem]); first | done | omega, ?_⟩)); first | apply hK | (refine ⟨by simp [go_sem], ?_⟩; first | apply hK | refine ⟨by simp [go_sem], hK _ _ ?_⟩)) | refine ⟨.one (.one (.bool false)), by simp [go_sem], hK _ _ ?_⟩ | refine ⟨by first | omega | (simp [z_f, z_g]; first | done | omega), ?_⟩ | refine ⟨hK _ ?_, fun h => ?_⟩ | refine ⟨?_, ?_⟩); all_goals ((try apply hK); clear hK K))
  all_goals first | rfl | (refine z_j 0 _ (by omega) (.inr ⟨rfl, rfl⟩) ?_; simp [go_sem]; done)
 ·refine wN ?_
  simp [go_sem]
theorem f34b (ag : List (List DV)) : Impl Tryz.prog 34 [.ag (encG exG), .one (.sl (exH.map encH)), .one (.int .i64 1), .one (.sl ag)] (.one (.one (.int .i64 0))) := by
 rw [exG_enc, exH_enc]
 refine impl_v ?_
 refine z_l [(8, .sv (.one (.int .i64 0))), (4, .sv (.one (.bx [.str ⟨#[80]⟩, .sl [[.str ⟨#[65]⟩], [.str ⟨#[66]⟩], [.str ⟨#[67]⟩]], .sl dE, .int .i64 3, .int .i64 0, .int .i64 2, .sl gE, .sl []]))), (3, .sv (.one (.sl ag))), (2, .sv (.one (.int .i64 1))), (1, .sv (.one (.sl hE)))] ?_ ?_
 ·refine wN ?_
  refine z_m ?_
  simp [go_sem]
 refine z_l [(9, .sv (.one (.int .i64 0))), (8, .sv (.one (.int .i64 0))), (4, .sv (.one (.bx [.str ⟨#[80]⟩, .sl [[.str ⟨#[65]⟩], [.str ⟨#[66]⟩], [.str ⟨#[67]⟩]], .sl dE, .int .i64 3, .int .i64 0, .int .i64 2, .sl gE, .sl []]))), (3, .sv (.one (.sl ag))), (2, .sv (.one (.int .i64 1))), (1, .sv (.one (.sl hE)))] ?_ ?_
 ·refine wN ?_
  refine z_m ?_
  simp [go_sem]
 refine z_l [(9, .sv (.one (.int .i64 0))), (8, .sv (.one (.int .i64 0))), (4, .sv (.one (.bx [.str ⟨#[80]⟩, .sl [[.str ⟨#[65]⟩], [.str ⟨#[66]⟩], [.str ⟨#[67]⟩]], .sl dE, .int .i64 3, .int .i64 0, .int .i64 2, .sl gE, .sl []]))), (3, .sv (.one (.sl ag))), (2, .sv (.one (.int .i64 1))), (1, .sv (.one (.sl hE)))] ?_ ?_
 ·have hd2 : dE.length = 2 := rfl
  refine wX hd2 ?_
  refine z_k (fun n e => ∃ k : Nat, k + n = 2 /\ e = [(23, .sv (.one (.int .i64 k))), (22, .sv (.one (.int .i64 2))), (21, .sv (.one (.sl dE))), (9, .sv (.one (.int .i64 0))), (8, .sv (.one (.int .i64 0))), (4, .sv (.one (.bx [.str ⟨#[80]⟩, .sl [[.str ⟨#[65]⟩], [.str ⟨#[66]⟩], [.str ⟨#[67]⟩]], .sl dE, .int .i64 3, .int .i64 0, .int .i64 2, .sl gE, .sl []]))), (3, .sv (.one (.sl ag))), (2, .sv (.one (.int .i64 1))), (1, .sv (.one (.sl hE)))]) 2 _ ⟨0, by simp, rfl⟩ (by simp [go_sem]) ?_
  rintro n e ⟨k, hk, rfl⟩
  by_cases h0 : k = 0
  ·subst h0
   refine wX dE.eq_1 ?_
   refine z_j (n - 1) _ (by omega) ⟨1, by omega, rfl⟩ ?_
   simp [go_sem, dE]
  ·by_cases h1 : k = 1
   ·subst h1
    refine wX dE.eq_1 ?_
    refine z_j (n - 1) _ (by omega) ⟨2, by omega, rfl⟩ ?_
    simp [go_sem, dE]
   ·have h2 : k = 2 := by omega
    subst h2
    refine wN ?_
    refine z_m ?_
    simp [go_sem]
 refine z_l [(12, .sv (.one (.ow 3 []))), (8, .sv (.one (.int .i64 0))), (4, .sv (.one (.bx [.str ⟨#[80]⟩, .sl [[.str ⟨#[65]⟩], [.str ⟨#[66]⟩], [.str ⟨#[67]⟩]], .sl dE, .int .i64 3, .int .i64 0, .int .i64 2, .sl gE, .sl []]))), (3, .sv (.one (.sl ag))), (2, .sv (.one (.int .i64 1))), (1, .sv (.one (.sl hE)))] ?_ ?_
 ·refine wN ?_
  refine z_m ?_
  simp [go_sem]
 refine z_l [(13, .sv (.one (.ow 1 [[.int .i64 0], [.int .i64 0], [.int .i64 0]]))), (12, .sv (.one (.ow 3 []))), (8, .sv (.one (.int .i64 0))), (4, .sv (.one (.bx [.str ⟨#[80]⟩, .sl [[.str ⟨#[65]⟩], [.str ⟨#[66]⟩], [.str ⟨#[67]⟩]], .sl dE, .int .i64 3, .int .i64 0, .int .i64 2, .sl gE, .sl []]))), (3, .sv (.one (.sl ag))), (2, .sv (.one (.int .i64 1))), (1, .sv (.one (.sl hE)))] ?_ ?_
 ·refine wX hE.eq_1 ?_
  refine z_m ?_
  simp [go_sem, hE, List.replicate_succ]
 refine wX hE.eq_1 ?_
 refine z_k (fun n e => n = 0 /\ e = [(43, .sv (.one (.int .i64 0))), (42, .sv (.one (.int .i64 0)))]) 0 _ ⟨rfl, rfl⟩ (by simp [go_sem, hE]) ?_
 rintro n e ⟨_, rfl⟩
 refine wN ?_
 simp [go_sem]
theorem f34c (ag : List (List DV)) : Impl Tryz.prog 34 [.ag (encG exG), .one (.sl (exH.map encH)), .one (.int .i64 2), .one (.sl ag)] (.one (.one (.int .i64 23))) := by
 have k57 := f57n 1 (.inr rfl)
 have k58 := f58n ev0 2 (by decide)
 have e0 : encE ev0 = [.int .i64 0, .bool true, .int .i64 1, .int .i64 0, .nil] := rfl
 rw [e0] at k58
 rw [exD_dE] at k57
 rw [exG_enc, exH_enc]
 refine impl_v ?_
 refine z_l [(8, .sv (.one (.int .i64 0))), (4, .sv (.one (.bx [.str ⟨#[80]⟩, .sl [[.str ⟨#[65]⟩], [.str ⟨#[66]⟩], [.str ⟨#[67]⟩]], .sl dE, .int .i64 3, .int .i64 0, .int .i64 2, .sl gE, .sl []]))), (3, .sv (.one (.sl ag))), (2, .sv (.one (.int .i64 2))), (1, .sv (.one (.sl hE)))] ?_ ?_
 ·refine wN ?_
  refine z_m ?_
  simp [go_sem]
 refine z_l [(9, .sv (.one (.int .i64 0))), (8, .sv (.one (.int .i64 0))), (4, .sv (.one (.bx [.str ⟨#[80]⟩, .sl [[.str ⟨#[65]⟩], [.str ⟨#[66]⟩], [.str ⟨#[67]⟩]], .sl dE, .int .i64 3, .int .i64 0, .int .i64 2, .sl gE, .sl []]))), (3, .sv (.one (.sl ag))), (2, .sv (.one (.int .i64 2))), (1, .sv (.one (.sl hE)))] ?_ ?_
 ·refine wN ?_
  refine z_m ?_
  simp [go_sem]
 refine z_l [(9, .sv (.one (.int .i64 0))), (8, .sv (.one (.int .i64 0))), (4, .sv (.one (.bx [.str ⟨#[80]⟩, .sl [[.str ⟨#[65]⟩], [.str ⟨#[66]⟩], [.str ⟨#[67]⟩]], .sl dE, .int .i64 3, .int .i64 0, .int .i64 2, .sl gE, .sl []]))), (3, .sv (.one (.sl ag))), (2, .sv (.one (.int .i64 2))), (1, .sv (.one (.sl hE)))] ?_ ?_
 ·have hd2 : dE.length = 2 := rfl
  refine wX hd2 ?_
  refine z_k (fun n e => ∃ k : Nat, k + n = 2 /\ e = [(23, .sv (.one (.int .i64 k))), (22, .sv (.one (.int .i64 2))), (21, .sv (.one (.sl dE))), (9, .sv (.one (.int .i64 0))), (8, .sv (.one (.int .i64 0))), (4, .sv (.one (.bx [.str ⟨#[80]⟩, .sl [[.str ⟨#[65]⟩], [.str ⟨#[66]⟩], [.str ⟨#[67]⟩]], .sl dE, .int .i64 3, .int .i64 0, .int .i64 2, .sl gE, .sl []]))), (3, .sv (.one (.sl ag))), (2, .sv (.one (.int .i64 2))), (1, .sv (.one (.sl hE)))]) 2 _ ⟨0, by simp, rfl⟩ (by simp [go_sem]) ?_
  rintro n e ⟨k, hk, rfl⟩
  by_cases h0 : k = 0
  ·subst h0
   refine wX dE.eq_1 ?_
   refine z_j (n - 1) _ (by omega) ⟨1, by omega, rfl⟩ ?_
   simp [go_sem, dE]
  ·by_cases h1 : k = 1
   ·subst h1
    refine wX dE.eq_1 ?_
    refine z_j (n - 1) _ (by omega) ⟨2, by omega, rfl⟩ ?_
    simp [go_sem, dE]
   ·have h2 : k = 2 := by omega
    subst h2
    refine wN ?_
    refine z_m ?_
    simp [go_sem]
 refine z_l [(12, .sv (.one (.ow 3 []))), (8, .sv (.one (.int .i64 0))), (4, .sv (.one (.bx [.str ⟨#[80]⟩, .sl [[.str ⟨#[65]⟩], [.str ⟨#[66]⟩], [.str ⟨#[67]⟩]], .sl dE, .int .i64 3, .int .i64 0, .int .i64 2, .sl gE, .sl []]))), (3, .sv (.one (.sl ag))), (2, .sv (.one (.int .i64 2))), (1, .sv (.one (.sl hE)))] ?_ ?_
 ·refine wN ?_
  refine z_m ?_
  simp [go_sem]
 refine z_l [(13, .sv (.one (.ow 1 [[.int .i64 0], [.int .i64 0], [.int .i64 0]]))), (12, .sv (.one (.ow 3 []))), (8, .sv (.one (.int .i64 0))), (4, .sv (.one (.bx [.str ⟨#[80]⟩, .sl [[.str ⟨#[65]⟩], [.str ⟨#[66]⟩], [.str ⟨#[67]⟩]], .sl dE, .int .i64 3, .int .i64 0, .int .i64 2, .sl gE, .sl []]))), (3, .sv (.one (.sl ag))), (2, .sv (.one (.int .i64 2))), (1, .sv (.one (.sl hE)))] ?_ ?_
 ·refine wX hE.eq_1 ?_
  refine z_m ?_
  simp [go_sem, hE, List.replicate_succ]
 refine wX hE.eq_1 ?_
 refine z_k (fun n e => ∃ k : Nat, k + n = 1 /\ k = 0 /\ e = [(43, .sv (.one (.int .i64 k))), (42, .sv (.one (.int .i64 1))), (41, .sv (.one (.sl [[.int .i64 2, .bool false, .int .i64 0, .int .i64 1, .nil]]))), (13, .sv (.one (.ow 1 [[.int .i64 0], [.int .i64 0], [.int .i64 0]]))), (12, .sv (.one (.ow 3 []))), (8, .sv (.one (.int .i64 0))), (4, .sv (.one (.bx [.str ⟨#[80]⟩, .sl [[.str ⟨#[65]⟩], [.str ⟨#[66]⟩], [.str ⟨#[67]⟩]], .sl dE, .int .i64 3, .int .i64 0, .int .i64 2, .sl gE, .sl []]))), (3, .sv (.one (.sl ag))), (2, .sv (.one (.int .i64 2))), (1, .sv (.one (.sl hE)))]) 1 _ ⟨0, by simp, rfl, rfl⟩ (by simp [go_sem, hE]) ?_
 rintro n e ⟨k, hk, rfl, rfl⟩
 refine wV hE.eq_1 (aN k57 k58) ?_
 simp [go_sem]
def agE (k j : Nat) : List (List DV) := match k, j with
 | 0, 1 => [[.bool false]]
 | 0, 2 => [[.bool false], [.bool false]]
 | 1, 1 => [[.bool false]]
 | 1, 2 => [[.bool false]]
 | 2, 2 => [[.bool false]]
 | _, _ => []
theorem f17x (h109 : H109) : Impl Tryz.prog 17 [.ag (encG exG), .one (.sl (exH.map encH))] (.one (.one (.int .i64 23))) := by
 have k26 := f26 h109 exG exH ⟨by decide, by decide, by simp [exG, exD], by simp [exG, exD]; decide, by decide, by decide⟩ (by decide) (by decide)
 rw [search_ex] at k26
 have k34a := f34a
 have k34b := f34b
 have k34c := f34c
 have p1 := fun r => f20 [⟨0, 1, 0⟩] r (by simp)
 have p2 := fun r => f20 [⟨0, 2, 1⟩] r (by simp)
 simp only [List.map_cons, List.map_nil, encI] at p1 p2
 have hr : resS (some [0, 1]) = .ow 1 [[.int .i64 0], [.int .i64 1]] := rfl
 rw [hr] at k26
 rw [exG_enc, exH_enc] at k26 k34a
 simp only [exG_enc, exH_enc] at k34b k34c
 rw [exG_enc, exH_enc]
 have q10 : (project [⟨0, 1, 0⟩] 0).map encE = [[.int .i64 0, .bool true, .int .i64 1, .int .i64 0, .nil]] := rfl
 have q11 : (project [⟨0, 1, 0⟩] 1).map encE = [[.int .i64 1, .bool false, .int .i64 0, .int .i64 0, .nil]] := rfl
 have q12 : (project [⟨0, 1, 0⟩] 2).map encE = [] := rfl
 have q20 : (project [⟨0, 2, 1⟩] 0).map encE = [[.int .i64 0, .bool true, .int .i64 2, .int .i64 1, .nil]] := rfl
 have q21 : (project [⟨0, 2, 1⟩] 1).map encE = [] := rfl
 have q22 : (project [⟨0, 2, 1⟩] 2).map encE = [[.int .i64 2, .bool false, .int .i64 0, .int .i64 1, .nil]] := rfl
 have p10 := p1 0
 have p11 := p1 1
 have p12 := p1 2
 have p20 := p2 0
 have p21 := p2 1
 have p22 := p2 2
 rw [q10] at p10
 rw [q11] at p11
 rw [q12] at p12
 rw [q20] at p20
 rw [q21] at p21
 rw [q22] at p22
 have hap0 : z_f 1 1 [] [[.bool false]] := by simp [z_f, z_g, DV.flat, maxLen]
 have hap1 : z_f 1 1 [[.bool false]] [[.bool false]] := by simp [z_f, z_g, DV.flat, maxLen]
 clear p1 p2 q10 q11 q12 q20 q21 q22
 refine impl_v ?_
 refine z_l [(4, .sv (.one (.int .i64 0))), (2, .sv (.one (.bx [.str ⟨#[80]⟩, .sl [[.str ⟨#[65]⟩], [.str ⟨#[66]⟩], [.str ⟨#[67]⟩]], .sl dE, .int .i64 3, .int .i64 0, .int .i64 2, .sl gE, .sl []]))), (1, .sv (.one (.sl hE)))] ?_ ?_
 ·refine wN ?_
  refine z_m ?_
  simp [go_sem]
 refine z_l [(6, .sv (.one (.int .i64 0))), (5, .sv (.one (.ow 1 [[.int .i64 0], [.int .i64 1]]))), (4, .sv (.one (.int .i64 0))), (2, .sv (.one (.bx [.str ⟨#[80]⟩, .sl [[.str ⟨#[65]⟩], [.str ⟨#[66]⟩], [.str ⟨#[67]⟩]], .sl dE, .int .i64 3, .int .i64 0, .int .i64 2, .sl gE, .sl []]))), (1, .sv (.one (.sl hE)))] ?_ ?_
 ·refine wC k26 ?_
  refine z_m ?_
  simp [go_sem]
 refine z_l [(6, .sv (.one (.int .i64 0))), (5, .sv (.one (.ow 1 [[.int .i64 0], [.int .i64 1]]))), (4, .sv (.one (.int .i64 0))), (2, .sv (.one (.bx [.str ⟨#[80]⟩, .sl [[.str ⟨#[65]⟩], [.str ⟨#[66]⟩], [.str ⟨#[67]⟩]], .sl dE, .int .i64 3, .int .i64 0, .int .i64 2, .sl gE, .sl []]))), (1, .sv (.one (.sl hE)))] ?_ ?_
 ·refine wN ?_
  refine z_m ?_
  simp [go_sem]
 have hh3 : hE.length = 3 := rfl
 refine wX hh3 ?_
 refine z_k (fun n e => ∃ k : Nat, k + n = 3 /\ k <= 2 /\ e = [(24, .sv (.one (.int .i64 k))), (23, .sv (.one (.int .i64 3))), (6, .sv (.one (.int .i64 0))), (5, .sv (.one (.ow 1 [[.int .i64 0], [.int .i64 1]]))), (4, .sv (.one (.int .i64 0))), (2, .sv (.one (.bx [.str ⟨#[80]⟩, .sl [[.str ⟨#[65]⟩], [.str ⟨#[66]⟩], [.str ⟨#[67]⟩]], .sl dE, .int .i64 3, .int .i64 0, .int .i64 2, .sl gE, .sl []]))), (1, .sv (.one (.sl hE)))]) 3 _ ⟨0, by simp, by simp, rfl⟩ (by simp [go_sem]) ?_
 rintro n e ⟨k, hk, hk2, rfl⟩
 have hk3 : (k : Int) < 3 := by omega
 refine z_l [(25, .sv (.one (.bool true))), (24, .sv (.one (.int .i64 k))), (23, .sv (.one (.int .i64 3))), (6, .sv (.one (.int .i64 0))), (5, .sv (.one (.ow 1 [[.int .i64 0], [.int .i64 1]]))), (4, .sv (.one (.int .i64 0))), (2, .sv (.one (.bx [.str ⟨#[80]⟩, .sl [[.str ⟨#[65]⟩], [.str ⟨#[66]⟩], [.str ⟨#[67]⟩]], .sl dE, .int .i64 3, .int .i64 0, .int .i64 2, .sl gE, .sl []]))), (1, .sv (.one (.sl hE)))] ?_ ?_
 ·refine wX hk3 ?_
  refine z_m ?_
  simp [go_sem]
 refine z_l [(24, .sv (.one (.int .i64 k))), (23, .sv (.one (.int .i64 3))), (6, .sv (.one (.int .i64 0))), (5, .sv (.one (.ow 1 [[.int .i64 0], [.int .i64 1]]))), (4, .sv (.one (.int .i64 0))), (2, .sv (.one (.bx [.str ⟨#[80]⟩, .sl [[.str ⟨#[65]⟩], [.str ⟨#[66]⟩], [.str ⟨#[67]⟩]], .sl dE, .int .i64 3, .int .i64 0, .int .i64 2, .sl gE, .sl []]))), (1, .sv (.one (.sl hE)))] ?_ ?_
 ·refine wN ?_
  refine z_m ?_
  simp [go_sem]
 refine z_A ?_
 refine z_C ?_
 refine z_l [(7, .sv (.one (.int .i64 k))), (24, .sv (.one (.int .i64 k))), (23, .sv (.one (.int .i64 3))), (6, .sv (.one (.int .i64 0))), (5, .sv (.one (.ow 1 [[.int .i64 0], [.int .i64 1]]))), (4, .sv (.one (.int .i64 0))), (2, .sv (.one (.bx [.str ⟨#[80]⟩, .sl [[.str ⟨#[65]⟩], [.str ⟨#[66]⟩], [.str ⟨#[67]⟩]], .sl dE, .int .i64 3, .int .i64 0, .int .i64 2, .sl gE, .sl []]))), (1, .sv (.one (.sl hE)))] ?_ ?_
 ·refine wN ?_
  refine z_m ?_
  simp [go_sem]
 refine z_l [(8, .sv (.one .nil)), (7, .sv (.one (.int .i64 k))), (24, .sv (.one (.int .i64 k))), (23, .sv (.one (.int .i64 3))), (6, .sv (.one (.int .i64 0))), (5, .sv (.one (.ow 1 [[.int .i64 0], [.int .i64 1]]))), (4, .sv (.one (.int .i64 0))), (2, .sv (.one (.bx [.str ⟨#[80]⟩, .sl [[.str ⟨#[65]⟩], [.str ⟨#[66]⟩], [.str ⟨#[67]⟩]], .sl dE, .int .i64 3, .int .i64 0, .int .i64 2, .sl gE, .sl []]))), (1, .sv (.one (.sl hE)))] ?_ ?_
 ·refine wN ?_
  refine z_m ?_
  simp [go_sem]
 refine z_l [(8, .sv (.one (.ow 1 (agE k 2)))), (7, .sv (.one (.int .i64 k))), (24, .sv (.one (.int .i64 k))), (23, .sv (.one (.int .i64 3))), (6, .sv (.one (.int .i64 0))), (5, .sv (.one (.ow 1 [[.int .i64 0], [.int .i64 1]]))), (4, .sv (.one (.int .i64 0))), (2, .sv (.one (.bx [.str ⟨#[80]⟩, .sl [[.str ⟨#[65]⟩], [.str ⟨#[66]⟩], [.str ⟨#[67]⟩]], .sl dE, .int .i64 3, .int .i64 0, .int .i64 2, .sl gE, .sl []]))), (1, .sv (.one (.sl hE)))] ?_ ?_
 ·refine wN ?_
  refine z_k (fun m e => ∃ j : Nat, j + m = 2 /\ e = [(29, .sv (.one (.int .i64 j))), (28, .sv (.one (.int .i64 2))), (27, .al 5 []), (8, .sv (.one (.ow 1 (agE k j)))), (7, .sv (.one (.int .i64 k))), (24, .sv (.one (.int .i64 k))), (23, .sv (.one (.int .i64 3))), (6, .sv (.one (.int .i64 0))), (5, .sv (.one (.ow 1 [[.int .i64 0], [.int .i64 1]]))), (4, .sv (.one (.int .i64 0))), (2, .sv (.one (.bx [.str ⟨#[80]⟩, .sl [[.str ⟨#[65]⟩], [.str ⟨#[66]⟩], [.str ⟨#[67]⟩]], .sl dE, .int .i64 3, .int .i64 0, .int .i64 2, .sl gE, .sl []]))), (1, .sv (.one (.sl hE)))]) 2 _ ⟨0, by simp, rfl⟩ (by
   have : agE k 0 = [] := by unfold agE; split <;> simp_all
   simp [go_sem, this]) ?_
  rintro m e ⟨j, hj, rfl⟩
  have hkc : k = 0 \/ k = 1 \/ k = 2 := by omega
  by_cases hj0 : j = 0
  ·subst hj0
   rcases hkc with rfl | rfl | rfl
   ·refine wV (aN gE.eq_1 <| aN agE.eq_1 <| aN agE.eq_2 <| aN agE.eq_3 <| aN agE.eq_4 <| aN agE.eq_5 <| aN agE.eq_6 hap0) p10 ?_
    refine z_j (m - 1) _ (by omega) ⟨1, by omega, rfl⟩ ?_
    simp [go_sem, gE, agE]
   ·refine wV (aN gE.eq_1 <| aN agE.eq_1 <| aN agE.eq_2 <| aN agE.eq_3 <| aN agE.eq_4 <| aN agE.eq_5 <| aN agE.eq_6 hap0) p11 ?_
    refine z_j (m - 1) _ (by omega) ⟨1, by omega, rfl⟩ ?_
    simp [go_sem, gE, agE]
   ·refine wV (aN gE.eq_1 <| aN agE.eq_1 <| aN agE.eq_2 <| aN agE.eq_3 <| aN agE.eq_4 <| aN agE.eq_5 <| aN agE.eq_6 hap0) p12 ?_
    refine z_j (m - 1) _ (by omega) ⟨1, by omega, rfl⟩ ?_
    simp [go_sem, gE, agE]
  ·by_cases hj1 : j = 1
   ·subst hj1
    rcases hkc with rfl | rfl | rfl
    ·refine wV (aN gE.eq_1 <| aN agE.eq_1 <| aN agE.eq_2 <| aN agE.eq_3 <| aN agE.eq_4 <| aN agE.eq_5 <| aN agE.eq_6 hap1) p20 ?_
     refine z_j (m - 1) _ (by omega) ⟨2, by omega, rfl⟩ ?_
     simp [go_sem, gE, agE]
    ·refine wV (aN gE.eq_1 <| aN agE.eq_1 <| aN agE.eq_2 <| aN agE.eq_3 <| aN agE.eq_4 <| aN agE.eq_5 <| aN agE.eq_6 hap1) p21 ?_
     refine z_j (m - 1) _ (by omega) ⟨2, by omega, rfl⟩ ?_
     simp [go_sem, gE, agE]
    ·refine wV (aN gE.eq_1 <| aN agE.eq_1 <| aN agE.eq_2 <| aN agE.eq_3 <| aN agE.eq_4 <| aN agE.eq_5 <| aN agE.eq_6 hap0) p22 ?_
     refine z_j (m - 1) _ (by omega) ⟨2, by omega, rfl⟩ ?_
     simp [go_sem, gE, agE]
   ·have hj2 : j = 2 := by omega
    subst hj2
    refine wN ?_
    refine z_m ?_
    simp [go_sem]
 by_cases h0 : k = 0
 ·subst h0
  refine wV (aN agE.eq_1 <| aN agE.eq_2 <| aN agE.eq_3 <| aN agE.eq_4 <| aN agE.eq_5 agE.eq_6) k34a ?_
  refine z_j (n - 1) _ (by omega) ⟨1, by omega, by omega, rfl⟩ ?_
  simp [go_sem]
 ·by_cases h1 : k = 1
  ·subst h1
   refine wV (aN agE.eq_1 <| aN agE.eq_2 <| aN agE.eq_3 <| aN agE.eq_4 <| aN agE.eq_5 agE.eq_6) (fun {x0_} => k34b x0_) ?_
   refine z_j (n - 1) _ (by omega) ⟨2, by omega, by omega, rfl⟩ ?_
   simp [go_sem]
  ·have h2 : k = 2 := by omega
   subst h2
   refine wV (aN agE.eq_1 <| aN agE.eq_2 <| aN agE.eq_3 <| aN agE.eq_4 <| aN agE.eq_5 agE.eq_6) (fun {x0_} => k34c x0_) ?_
   simp [go_sem]
end Go.Av

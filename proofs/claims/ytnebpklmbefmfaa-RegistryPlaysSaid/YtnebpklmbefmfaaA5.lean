/- Check of rows of instructions. -/
import Derived.Test.YtnebpklmbefmfaaA3
set_option linter.unusedVariables false
set_option linter.unusedSimpArgs false
namespace Go.Proofs.Ytnebpklmbefmfaa
open Go.RowKit
attribute [local irreducible] X RL W Ctr
theorem f_check1 (i h left m : Int) (k : Nat) (w : World) (hk : w.heap[k]? = some (cel 3 [.int .i64 m])) :
    Ctr Try.prog 60 [.int .i64 i, .int .i64 h, .int .i64 left, .pointer (some ⟨k, 0, none⟩)] w [(k, cel 3 [.int .i64 m])] fun v L => v = .bool true ∧ L = [(k, cel 3 [.int .i64 (max m left)])] := by
 refine Ctr.intro (n := 11) Try.func60 rfl Try.ntmps60 (Nat.le_of_ble_eq_true rfl) (fun p hp => by simp at hp; subst hp; exact hk) (by simp [keys]) ?_
 refine X.seq ?_
 refine X.region rfl ?_
 refine RL.assign rfl ?_
 refine RL.nil ?_
 refine X.seq ?_
 refine X.region rfl ?_
 refine RL.loadO rfl sc3 rfl rfl ?_
 refine RL.move rfl ?_
 refine RL.max2 rfl rfl rfl ?_
 refine RL.stI rfl rfl sc3.size rfl rfl (by first | exact Nat.zero_lt_one | decide | simp) ?_
 refine RL.nil ?_
 refine X.seq ?_
 refine X.region rfl ?_
 refine RL.assign rfl ?_
 refine RL.nil ?_
 refine X.ret ?_
 refine ret1 rfl ?_
 exact ⟨rfl, rfl⟩
theorem f_check (l : List Ins) (hlen : l.length ≤ 1000) (A : Option Addr) (c : Nat) (w : World) (hrd : Rd w A (icells l)) (s : Int) :
    Ctr Try.prog 53 [.slice A l.length c, .int .i64 s] w [] fun v _ => v = .tuple #[.int .i64 (checkP l s).1, .int .i64 (checkP l s).2.1, .int .i64 (checkP l s).2.2] := by
 obtain ⟨bb, oo, hA0, hc⟩ := hrd
 have hA : 0 < l.length → A = some ⟨bb, oo, none⟩ := fun h => hA0 (by rw [ecells_len Ins.len]; omega)
 have hbl : 0 < l.length → bb < w.heap.size := fun h => Rd.lt hc (by rw [ecells_len Ins.len]; omega)
 refine Ctr.intro0 (n := 19) Try.func53 rfl Try.ntmps53 (Nat.le_of_ble_eq_true rfl) ?_
 refine X.seq ?_
 refine X.region rfl ?_
 refine RL.alloc rfl rfl zt3 ?_
 intro k4 hk4
 dsimp only at hk4
 refine RL.assign rfl ?_
 refine RL.assign rfl ?_
 refine RL.nil ?_
 refine X.seq ?_
 refine X.region rfl ?_
 refine RL.move rfl ?_
 refine RL.move rfl ?_
 refine RL.makeFunc rfl rfl rfl ?_
 refine RL.fn (Lp := [(k4, cel 3 [.int .i64 (0)])]) (Lr := []) rfl rfl rfl en59 (List.Perm.refl _) (fun w2 hw2 => f_walk l hlen A c bb oo w2 hA (elem_st hw2 hc (fun _ => by simp)) s 60 [.pointer (some ⟨k4, 0, none⟩)] en60 [(k4, cel 3 [.int .i64 (0)])] (fun pre L => L = [(k4, cel 3 [.int .i64 (mostV pre)])]) (fun _ _ => False) (fun p hp => hw2.own p (List.mem_append_left _ hp)) (by simp [keys]) (fun h => by have := hbl h; simp [keys]; omega) rfl
   (fun pre x rest LJ2 Lo w1 hF hJ hst => by
     subst hJ
     refine (f_check1 x.1 x.2.1 x.2.2 (mostV pre) k4 w1 (hst.own (k4, _) (by simp))).mono fun v L h => ?_
     exact ⟨true, h.1, .inl ⟨rfl, by rw [mostV_app]; exact h.2⟩⟩)) rfl ?_
 rintro _ _ ⟨LJ2, hs, ⟨rfl, rfl⟩ | ⟨pre, x, rest, _, hf, _⟩⟩
 rotate_left
 · exact hf.elim
 refine RL.drop rfl (hs.append (List.Sublist.refl _)) ?_
 rw [mostV_P]
 refine RL.move rfl ?_
 refine RL.extract rfl rfl rfl ?_
 refine RL.extract rfl rfl rfl ?_
 refine RL.assign rfl ?_
 refine RL.assign rfl ?_
 refine RL.nil ?_
 refine X.seq ?_
 refine X.seq ?_
 refine X.region rfl ?_
 refine RL.move rfl ?_
 refine RL.cmp_s rfl rfl rfl rfl (fun h => ?_) (fun h => ?_)
 ·replace h : (_ : Int) ≠ _ := h
  refine RL.nil ?_
  refine X.cond_t rfl ?_
  refine X.seq ?_
  refine X.region rfl ?_
  refine RL.move rfl ?_
  refine RL.move rfl ?_
  refine RL.stI rfl rfl sc3.size rfl rfl (by first | exact Nat.zero_lt_one | decide | simp) ?_
  refine RL.assign rfl ?_
  refine RL.assign rfl ?_
  refine RL.nil ?_
  refine X.ret ?_
  refine retc3 rfl sc3 rfl rfl ?_
  show (_ : Value) = _
  rw [checkP_err h]
 replace h : ¬ ((_ : Int) ≠ _) := h
 refine RL.nil ?_
 refine X.cond_f rfl ?_
 refine X.skip ?_
 refine X.seq ?_
 refine X.region rfl ?_
 refine RL.loadO rfl sc3 rfl rfl ?_
 refine RL.stI rfl rfl sc3.size rfl rfl (by first | exact Nat.zero_lt_one | decide | simp) ?_
 refine RL.assign rfl ?_
 refine RL.assign rfl ?_
 refine RL.nil ?_
 refine X.ret ?_
 refine retc3 rfl sc3 rfl rfl ?_
 show (_ : Value) = _
 rw [checkP_ok h]
end Go.Proofs.Ytnebpklmbefmfaa

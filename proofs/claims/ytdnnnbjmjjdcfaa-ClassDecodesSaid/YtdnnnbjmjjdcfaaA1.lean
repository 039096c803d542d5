/- The small functions of code: what each call comes to. -/
import Derived.Test.YtdnnnbjmjjdcfaaCode
set_option linter.unusedVariables false
set_option linter.unusedSimpArgs false
namespace Go.Proofs.Ytdnnnbjmjjdcfaa
open Go.RowKit
attribute [local irreducible] X RL W Ctr
theorem f_pick (x n : Int) (w : World) (hn : n ≤ 1000) (hn0 : -1000 ≤ n) : Ctr Try.prog 22 [.int .i64 x, .int .i64 n] w [] fun v _ => v = .int .i64 (if n < 1 then 0 else x % n) := by
 refine Ctr.intro0 (n := 17) Try.func22 rfl Try.ntmps22 (Nat.le_of_ble_eq_true rfl) ?_
 refine X.seq ?_
 refine X.region rfl ?_
 refine RL.assign rfl ?_
 refine RL.nil ?_
 refine X.seq ?_
 refine X.seq ?_
 refine X.region rfl ?_
 refine RL.move rfl ?_
 refine RL.cmp_s rfl rfl rfl rfl (fun h => ?_) (fun h => ?_)
 ·replace h : (_ : Int) < _ := h
  refine RL.nil ?_
  refine X.cond_t rfl ?_
  refine X.seq ?_
  refine X.region rfl ?_
  refine RL.assign rfl ?_
  refine RL.nil ?_
  refine X.ret ?_
  refine ret1 rfl ?_
  show (_ : Value) = _
  rw [if_pos h]
 ·replace h : ¬ ((_ : Int) < _) := h
  have e1 := Int.emod_nonneg x (show n ≠ 0 by omega)
  have e2 := Int.emod_lt_of_pos x (show 0 < n by omega)
  have e3 : x.tmod n = if x % n = 0 ∨ 0 ≤ x then x % n else x % n - n := by
    rw [Int.tmod_eq_emod]
    have e4 : (n ∣ x) ↔ x % n = 0 := Int.dvd_iff_emod_eq_zero
    have e5 : (n.natAbs : Int) = n := by omega
    by_cases g1 : 0 ≤ x <;> by_cases g2 : x % n = 0 <;> simp [g1, g2, e4, e5]
  refine RL.nil ?_
  refine X.cond_f rfl ?_
  refine X.skip ?_
  refine X.seq ?_
  refine X.region rfl ?_
  refine RL.move rfl ?_
  refine RL.move rfl ?_
  refine RL.rem rfl rfl rfl (by omega) ?_
  refine RL.assign rfl ?_
  refine RL.nil ?_
  refine X.seq ?_
  refine X.seq ?_
  refine X.region rfl ?_
  refine RL.move rfl ?_
  refine RL.cmp_s rfl rfl rfl rfl (fun g => ?_) (fun g => ?_)
  ·replace g : (_ : Int) < _ := g
   refine RL.nil ?_
   refine X.cond_t rfl ?_
   refine X.region rfl ?_
   refine RL.move rfl ?_
   refine RL.move rfl ?_
   refine RL.add rfl rfl rfl (by rw [e3] at g ⊢; split <;> omega) ?_
   refine RL.assign rfl ?_
   refine RL.nil ?_
   refine X.seq ?_
   refine X.region rfl ?_
   refine RL.move rfl ?_
   refine RL.assign rfl ?_
   refine RL.nil ?_
   refine X.ret ?_
   refine ret1 rfl ?_
   show (_ : Value) = _
   rw [if_neg (by omega)]
   congr 1
   rw [e3] at g ⊢
   split at g <;> simp_all <;> omega
  ·replace g : ¬ ((_ : Int) < _) := g
   refine RL.nil ?_
   refine X.cond_f rfl ?_
   refine X.skip ?_
   refine X.seq ?_
   refine X.region rfl ?_
   refine RL.move rfl ?_
   refine RL.assign rfl ?_
   refine RL.nil ?_
   refine X.ret ?_
   refine ret1 rfl ?_
   show (_ : Value) = _
   rw [if_neg (by omega)]
   congr 1
   rw [e3] at g ⊢
   split at g <;> simp_all <;> omega
theorem f_goes (l : List Ins) (hlen : l.length ≤ 1000) (A : Option Addr) (c : Nat) (w : World) (hrd : Rd w A (icells l)) (k i : Nat) (x : Ins) (hx : l[k]? = some x) (hi : i ≤ 1000) :
    Ctr Try.prog 44 [.slice A l.length c, .int .i64 k, .int .i64 i] w [] fun v _ => v = .bool (goesP x k i) := by
 obtain ⟨bb, oo, hA0, hc⟩ := hrd
 have hA : 0 < l.length → A = some ⟨bb, oo, none⟩ := fun h => hA0 (by rw [ecells_len Ins.len]; omega)
 have hk := (List.getElem?_eq_some_iff.1 hx).1
 refine Ctr.intro0 (n := 37) Try.func44 rfl Try.ntmps44 (Nat.le_of_ble_eq_true rfl) ?_
 refine X.seq ?_
 refine X.region rfl ?_
 refine RL.assign rfl ?_
 refine RL.nil ?_
 refine X.seq ?_
 refine X.seq ?_
 refine X.region rfl ?_
 refine RL.move rfl ?_
 refine RL.move rfl ?_
 refine RL.indexAddr rfl sl56 rfl rfl (hA (by omega)) rfl (by omega) ?_
 refine RL.fieldAddr rfl fd61_0 rfl ?_
 refine RL.loadI rfl sc3 rfl (CellsAt.at (elem_at Ins.len hc hx) rfl) (by simp) ?_
 refine RL.cmp_s rfl rfl rfl rfl (fun c1 => ?_) (fun c1 => ?_)
 ·replace c1 : (_ : Int) = _ := c1
  refine RL.nil ?_
  refine X.cond_t rfl ?_
  refine X.seq ?_
  refine X.region rfl ?_
  refine RL.assign rfl ?_
  refine RL.nil ?_
  refine X.ret ?_
  refine ret1 rfl ?_
  show (_ : Value) = _
  unfold goesP
  first | exact congrArg Value.bool (decide_eq_true (by omega)).symm | exact congrArg Value.bool (decide_eq_false (by omega)).symm
 ·replace c1 : ¬ ((_ : Int) = _) := c1
  refine RL.nil ?_
  refine X.cond_f rfl ?_
  refine X.skip ?_
  refine X.seq ?_
  refine X.region rfl ?_
  refine RL.move rfl ?_
  refine RL.move rfl ?_
  refine RL.add rfl rfl rfl (by omega) ?_
  refine RL.cmp_s rfl rfl rfl rfl (fun c2 => ?_) (fun c2 => ?_)
  ·replace c2 : (_ : Int) = _ := c2
   refine RL.move rfl ?_
   refine RL.skip rfl ?_
   refine RL.skip rfl ?_
   refine RL.skip rfl ?_
   refine RL.skip rfl ?_
   refine RL.skip rfl ?_
   refine RL.skip rfl ?_
   refine RL.skip rfl ?_
   refine RL.skip rfl ?_
   refine RL.skip rfl ?_
   refine RL.skip rfl ?_
   refine RL.skip rfl ?_
   refine RL.skip rfl ?_
   refine RL.skip rfl ?_
   refine RL.skip rfl ?_
   refine RL.skip rfl ?_
   refine RL.skip rfl ?_
   refine RL.skip rfl ?_
   refine RL.skip rfl ?_
   refine RL.pick_t rfl rfl ?_
   refine RL.assign rfl ?_
   refine RL.nil ?_
   refine X.ret ?_
   refine ret1 rfl ?_
   show (_ : Value) = _
   unfold goesP
   first | exact congrArg Value.bool (decide_eq_true (by omega)).symm | exact congrArg Value.bool (decide_eq_false (by omega)).symm
  ·replace c2 : ¬ ((_ : Int) = _) := c2
   refine RL.move rfl ?_
   refine RL.move rfl ?_
   refine RL.move rfl ?_
   refine RL.indexAddr rfl sl56 rfl rfl (hA (by omega)) rfl (by omega) ?_
   refine RL.fieldAddr rfl fd61_0 rfl ?_
   refine RL.loadI rfl sc3 rfl (CellsAt.at (elem_at Ins.len hc hx) rfl) (by simp) ?_
   refine RL.cmp_s rfl rfl rfl rfl (fun c3 => ?_) (fun c3 => ?_)
   ·replace c3 : (_ : Int) = _ := c3
    refine RL.move rfl ?_
    refine RL.move rfl ?_
    refine RL.move rfl ?_
    refine RL.indexAddr rfl sl56 rfl rfl (hA (by omega)) rfl (by omega) ?_
    refine RL.fieldAddr rfl fd61_1 rfl ?_
    refine RL.loadI rfl sc3 rfl (CellsAt.at (elem_at Ins.len hc hx) rfl) (by simp) ?_
    refine RL.move rfl ?_
    refine RL.move rfl ?_
    refine RL.sub rfl rfl rfl (by omega) ?_
    refine RL.sub rfl rfl rfl (by omega) ?_
    refine RL.cmp_s rfl rfl rfl rfl (fun c4 => ?_) (fun c4 => ?_)
    ·replace c4 : (_ : Int) = _ := c4
     refine RL.pick_t rfl rfl ?_
     refine RL.pick_f rfl rfl ?_
     refine RL.assign rfl ?_
     refine RL.nil ?_
     refine X.ret ?_
     refine ret1 rfl ?_
     show (_ : Value) = _
     unfold goesP
     first | exact congrArg Value.bool (decide_eq_true (by omega)).symm | exact congrArg Value.bool (decide_eq_false (by omega)).symm
    ·replace c4 : ¬ ((_ : Int) = _) := c4
     refine RL.pick_t rfl rfl ?_
     refine RL.pick_f rfl rfl ?_
     refine RL.assign rfl ?_
     refine RL.nil ?_
     refine X.ret ?_
     refine ret1 rfl ?_
     show (_ : Value) = _
     unfold goesP
     first | exact congrArg Value.bool (decide_eq_true (by omega)).symm | exact congrArg Value.bool (decide_eq_false (by omega)).symm
   ·replace c3 : ¬ ((_ : Int) = _) := c3
    refine RL.move rfl ?_
    refine RL.skip rfl ?_
    refine RL.skip rfl ?_
    refine RL.skip rfl ?_
    refine RL.skip rfl ?_
    refine RL.skip rfl ?_
    refine RL.skip rfl ?_
    refine RL.skip rfl ?_
    refine RL.skip rfl ?_
    refine RL.skip rfl ?_
    refine RL.skip rfl ?_
    refine RL.pick_f rfl rfl ?_
    refine RL.pick_f rfl rfl ?_
    refine RL.assign rfl ?_
    refine RL.nil ?_
    refine X.ret ?_
    refine ret1 rfl ?_
    show (_ : Value) = _
    unfold goesP
    first | exact congrArg Value.bool (decide_eq_true (by omega)).symm | exact congrArg Value.bool (decide_eq_false (by omega)).symm
end Go.Proofs.Ytdnnnbjmjjdcfaa

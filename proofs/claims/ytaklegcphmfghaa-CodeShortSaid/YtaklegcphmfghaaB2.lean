/- The walks of CodeMore and CodeShort. -/
import Derived.Test.YtaklegcphmfghaaA5
import Derived.Test.YtaklegcphmfghaaCodeL
set_option linter.unusedVariables false
set_option linter.unusedSimpArgs false
namespace Go.Proofs.Ytaklegcphmfghaa
open Go.RowKit
attribute [local irreducible] X RL W Ctr
theorem w_more (l : List Ins) (hmax : l.length ≤ 9223372036854775807) (A : Option Addr) (c : Nat) (hcap : l.length ≤ c) (w : World) (hrd : Rd w A (icells l)) (s m : Int) :
    Ctr Try.prog 6 [.slice A l.length c, .int .i64 s, .int .i64 m] w [] fun v _ => v = .bool true := by
  have hrd1 := hrd
  obtain ⟨bb, oo, hA0, hc⟩ := hrd
  have hA : 0 < l.length → A = some ⟨bb, oo, none⟩ := fun h => hA0 (by rw [ecells_len Ins.len]; omega)
  refine Ctr.intro0 (n := 62) Try.func6 rfl Try.ntmps6 (Nat.le_of_ble_eq_true rfl) ?_
  refine X.seq ?_
  refine X.region rfl ?_
  refine RL.assign rfl ?_
  refine RL.nil ?_
  refine X.seq ?_
  refine X.seq ?_
  refine X.region rfl ?_
  refine RL.move rfl ?_
  rcases Nat.lt_or_ge 60 l.length with hg | hg
  · refine RL.fn0 rfl rfl rfl en9 (fun w hw => (f_great A l.length c w hmax).toT hg) rfl ?_
    rintro _ _ rfl
    refine RL.move rfl ?_
    refine RL.skip rfl ?_
    refine RL.skip rfl ?_
    refine RL.pick_t rfl rfl ?_
    refine RL.move rfl ?_
    refine RL.skip rfl ?_
    refine RL.skip rfl ?_
    refine RL.pick_t rfl rfl ?_
    refine RL.move rfl ?_
    refine RL.skip rfl ?_
    refine RL.skip rfl ?_
    refine RL.pick_t rfl rfl ?_
    refine RL.move rfl ?_
    refine RL.skip rfl ?_
    refine RL.skip rfl ?_
    refine RL.pick_t rfl rfl ?_
    refine RL.nil ?_
    refine X.cond_t rfl ?_
    refine X.seq ?_
    refine X.region rfl ?_
    refine RL.fn0 rfl rfl rfl en10 (fun w hw => (f_awake w)) rfl ?_
    rintro _ _ rfl
    refine RL.assign rfl ?_
    refine RL.nil ?_
    refine X.ret ?_
    refine ret1 rfl ?_
    show (_ : Value) = _
    rfl
  · have hlen : l.length ≤ 1000 := by omega
    refine RL.fn0 rfl rfl rfl en9 (fun w hw => (f_great A l.length c w hmax).toF (by omega)) rfl ?_
    rintro _ _ rfl
    refine RL.move rfl ?_
    refine RL.move rfl ?_
    refine RL.cmp_s rfl rfl rfl rfl (fun h0 => ?_) (fun h0 => ?_)
    · replace h0 : (_ : Int) < _ := h0
      refine RL.pick_f rfl rfl ?_
      refine RL.move rfl ?_
      refine RL.skip rfl ?_
      refine RL.skip rfl ?_
      refine RL.pick_t rfl rfl ?_
      refine RL.move rfl ?_
      refine RL.skip rfl ?_
      refine RL.skip rfl ?_
      refine RL.pick_t rfl rfl ?_
      refine RL.move rfl ?_
      refine RL.skip rfl ?_
      refine RL.skip rfl ?_
      refine RL.pick_t rfl rfl ?_
      refine RL.nil ?_
      refine X.cond_t rfl ?_
      refine X.seq ?_
      refine X.region rfl ?_
      refine RL.fn0 rfl rfl rfl en10 (fun w hw => (f_awake w)) rfl ?_
      rintro _ _ rfl
      refine RL.assign rfl ?_
      refine RL.nil ?_
      refine X.ret ?_
      refine ret1 rfl ?_
      show (_ : Value) = _
      rfl
    · replace h0 : ¬ ((_ : Int) < _) := h0
      refine RL.pick_f rfl rfl ?_
      refine RL.move rfl ?_
      refine RL.move rfl ?_
      refine RL.cmp_s rfl rfl rfl rfl (fun h1 => ?_) (fun h1 => ?_)
      · replace h1 : (_ : Int) > _ := h1
        refine RL.pick_f rfl rfl ?_
        refine RL.move rfl ?_
        refine RL.skip rfl ?_
        refine RL.skip rfl ?_
        refine RL.pick_t rfl rfl ?_
        refine RL.move rfl ?_
        refine RL.skip rfl ?_
        refine RL.skip rfl ?_
        refine RL.pick_t rfl rfl ?_
        refine RL.nil ?_
        refine X.cond_t rfl ?_
        refine X.seq ?_
        refine X.region rfl ?_
        refine RL.fn0 rfl rfl rfl en10 (fun w hw => (f_awake w)) rfl ?_
        rintro _ _ rfl
        refine RL.assign rfl ?_
        refine RL.nil ?_
        refine X.ret ?_
        refine ret1 rfl ?_
        show (_ : Value) = _
        rfl
      · replace h1 : ¬ ((_ : Int) > _) := h1
        refine RL.pick_f rfl rfl ?_
        refine RL.move rfl ?_
        refine RL.move rfl ?_
        refine RL.cmp_s rfl rfl rfl rfl (fun h2 => ?_) (fun h2 => ?_)
        · replace h2 : (_ : Int) < _ := h2
          refine RL.pick_f rfl rfl ?_
          refine RL.move rfl ?_
          refine RL.skip rfl ?_
          refine RL.skip rfl ?_
          refine RL.pick_t rfl rfl ?_
          refine RL.nil ?_
          refine X.cond_t rfl ?_
          refine X.seq ?_
          refine X.region rfl ?_
          refine RL.fn0 rfl rfl rfl en10 (fun w hw => (f_awake w)) rfl ?_
          rintro _ _ rfl
          refine RL.assign rfl ?_
          refine RL.nil ?_
          refine X.ret ?_
          refine ret1 rfl ?_
          show (_ : Value) = _
          rfl
        · replace h2 : ¬ ((_ : Int) < _) := h2
          refine RL.pick_f rfl rfl ?_
          refine RL.move rfl ?_
          refine RL.move rfl ?_
          refine RL.cmp_s rfl rfl rfl rfl (fun h3 => ?_) (fun h3 => ?_)
          · replace h3 : (_ : Int) > _ := h3
            refine RL.pick_f rfl rfl ?_
            refine RL.nil ?_
            refine X.cond_t rfl ?_
            refine X.seq ?_
            refine X.region rfl ?_
            refine RL.fn0 rfl rfl rfl en10 (fun w hw => (f_awake w)) rfl ?_
            rintro _ _ rfl
            refine RL.assign rfl ?_
            refine RL.nil ?_
            refine X.ret ?_
            refine ret1 rfl ?_
            show (_ : Value) = _
            rfl
          · replace h3 : ¬ ((_ : Int) > _) := h3
            refine RL.pick_f rfl rfl ?_
            refine RL.nil ?_
            refine X.cond_f rfl ?_
            refine X.skip ?_
            refine X.seq ?_
            refine X.region rfl ?_
            refine RL.move rfl ?_
            refine RL.move rfl ?_
            have hs : 0 ≤ m := by omega
            refine RL.fn0 rfl rfl rfl en11 (fun w hw => (f_check l hlen A c w (hrd1.st0 hw) s)) rfl ?_
            rintro _ _ rfl
            refine RL.move rfl ?_
            refine RL.extract rfl rfl rfl ?_
            refine RL.extract rfl rfl rfl ?_
            refine RL.extract rfl rfl rfl ?_
            refine RL.assign rfl ?_
            refine RL.assign rfl ?_
            refine RL.assign rfl ?_
            refine RL.nil ?_
            refine X.seq ?_
            refine X.region rfl ?_
            refine RL.move rfl ?_
            refine RL.move rfl ?_
            refine RL.move rfl ?_
            refine RL.add rfl rfl rfl (by omega) ?_
            refine RL.fn0 rfl rfl rfl en11 (fun w hw => (f_check l hlen A c w (hrd1.st0 hw) (s + m))) rfl ?_
            rintro _ _ rfl
            refine RL.move rfl ?_
            refine RL.extract rfl rfl rfl ?_
            refine RL.extract rfl rfl rfl ?_
            refine RL.extract rfl rfl rfl ?_
            refine RL.assign rfl ?_
            refine RL.assign rfl ?_
            refine RL.assign rfl ?_
            refine RL.nil ?_
            refine X.seq ?_
            refine X.region rfl ?_
            refine RL.move rfl ?_
            refine RL.cmp_s rfl rfl rfl rfl (fun h9 => ?_) (fun h9 => ?_)
            · replace h9 : (_ : Int) ≠ _ := h9
              refine RL.move rfl ?_
              refine RL.skip rfl ?_
              refine RL.skip rfl ?_
              refine RL.skip rfl ?_
              refine RL.skip rfl ?_
              refine RL.skip rfl ?_
              refine RL.skip rfl ?_
              refine RL.skip rfl ?_
              refine RL.pick_t rfl rfl ?_
              refine RL.move rfl ?_
              refine RL.fn0 rfl rfl rfl en10 (fun w hw => (f_awake w)) rfl ?_
              rintro _ _ rfl
              refine RL.pick_t rfl rfl ?_
              refine RL.assign rfl ?_
              refine RL.nil ?_
              refine X.ret ?_
              refine ret1 rfl ?_
              show (_ : Value) = _
              rfl
            · replace h9 : ¬ ((_ : Int) ≠ _) := h9
              have hv : Valid l s := check_valid.1 (Decidable.not_not.1 h9)
              have hm2 := hv.more hs
              refine RL.move rfl ?_
              refine RL.move rfl ?_
              refine RL.cmp_t rfl rfl rfl rfl (by show ((_ : Int) = _); rw [hm2]; exact Decidable.not_not.1 h9) ?_
              refine RL.move rfl ?_
              refine RL.move rfl ?_
              refine RL.move rfl ?_
              refine RL.cmp_t rfl rfl rfl rfl (by show ((_ : Int) = _); rw [hm2]) ?_
              refine RL.pick_t rfl rfl ?_
              refine RL.pick_f rfl rfl ?_
              refine RL.move rfl ?_
              refine RL.fn0 rfl rfl rfl en10 (fun w hw => (f_awake w)) rfl ?_
              rintro _ _ rfl
              refine RL.pick_t rfl rfl ?_
              refine RL.assign rfl ?_
              refine RL.nil ?_
              refine X.ret ?_
              refine ret1 rfl ?_
              show (_ : Value) = _
              rfl
theorem w_short (l : List Ins) (hmax : l.length ≤ 9223372036854775807) (A : Option Addr) (c : Nat) (hcap : l.length ≤ c) (w : World) (hrd : Rd w A (icells l)) (s : Int) :
    Ctr Try.prog 5 [.slice A l.length c, .int .i64 s] w [] fun v _ => v = .bool true := by
  have hrd1 := hrd
  obtain ⟨bb, oo, hA0, hc⟩ := hrd
  have hA : 0 < l.length → A = some ⟨bb, oo, none⟩ := fun h => hA0 (by rw [ecells_len Ins.len]; omega)
  refine Ctr.intro0 (n := 70) Try.func5 rfl Try.ntmps5 (Nat.le_of_ble_eq_true rfl) ?_
  refine X.seq ?_
  refine X.region rfl ?_
  refine RL.assign rfl ?_
  refine RL.nil ?_
  refine X.seq ?_
  refine X.seq ?_
  refine X.region rfl ?_
  refine RL.move rfl ?_
  rcases Nat.lt_or_ge 60 l.length with hg | hg
  · refine RL.fn0 rfl rfl rfl en9 (fun w hw => (f_great A l.length c w hmax).toT hg) rfl ?_
    rintro _ _ rfl
    refine RL.nil ?_
    refine X.cond_t rfl ?_
    refine X.seq ?_
    refine X.region rfl ?_
    refine RL.fn0 rfl rfl rfl en10 (fun w hw => (f_awake w)) rfl ?_
    rintro _ _ rfl
    refine RL.assign rfl ?_
    refine RL.nil ?_
    refine X.ret ?_
    refine ret1 rfl ?_
    show (_ : Value) = _
    rfl
  · have hlen : l.length ≤ 1000 := by omega
    refine RL.fn0 rfl rfl rfl en9 (fun w hw => (f_great A l.length c w hmax).toF (by omega)) rfl ?_
    rintro _ _ rfl
    refine RL.nil ?_
    refine X.cond_f rfl ?_
    refine X.skip ?_
    refine X.seq ?_
    refine X.seq ?_
    refine X.region rfl ?_
    refine RL.move rfl ?_
    refine RL.move rfl ?_
    refine RL.fn0 rfl rfl rfl en11 (fun w hw => (f_check l hlen A c w (hrd1.st0 hw) s)) rfl ?_
    rintro _ _ rfl
    refine RL.move rfl ?_
    refine RL.extract rfl rfl rfl ?_
    refine RL.extract rfl rfl rfl ?_
    refine RL.extract rfl rfl rfl ?_
    refine RL.assign rfl ?_
    refine RL.assign rfl ?_
    refine RL.assign rfl ?_
    refine RL.nil ?_
    refine X.seq ?_
    refine X.region rfl ?_
    refine RL.move rfl ?_
    refine RL.cmp_s rfl rfl rfl rfl (fun h => ?_) (fun h => ?_)
    · replace h : (_ : Int) ≠ _ := h
      refine RL.nil ?_
      refine X.cond_t rfl ?_
      refine X.seq ?_
      refine X.region rfl ?_
      refine RL.fn0 rfl rfl rfl en10 (fun w hw => (f_awake w)) rfl ?_
      rintro _ _ rfl
      refine RL.assign rfl ?_
      refine RL.nil ?_
      refine X.ret ?_
      refine ret1 rfl ?_
      show (_ : Value) = _
      rfl
    · replace h : ¬ ((_ : Int) ≠ _) := h
      have hv : Valid l s := check_valid.1 (Decidable.not_not.1 h)
      have hvl := hv.len
      obtain rfl := hA (by omega)
      have hsh := check_invalid hv.short
      refine RL.nil ?_
      refine X.cond_f rfl ?_
      refine X.skip ?_
      refine X.seq ?_
      refine X.region rfl ?_
      refine RL.move rfl ?_
      refine RL.move rfl ?_
      refine RL.len rfl sl22 rfl ?_
      refine RL.sub rfl rfl rfl (by omega) ?_
      refine RL.sliceHi1 (j := (l.take (l.length - 1)).length) rfl sl22 rfl rfl (by rw [List.length_take]; omega) (by rw [List.length_take]; omega) (by omega) ?_
      refine RL.move rfl ?_
      refine RL.fn0 rfl rfl rfl en11 (fun w hw => (f_check (l.take (l.length - 1)) (by rw [List.length_take]; omega) (some ⟨bb, oo, none⟩) c w (rd_takeE (hrd1.st0 hw)) s)) rfl ?_
      rintro _ _ rfl
      refine RL.move rfl ?_
      refine RL.extract rfl rfl rfl ?_
      refine RL.extract rfl rfl rfl ?_
      refine RL.extract rfl rfl rfl ?_
      refine RL.assign rfl ?_
      refine RL.assign rfl ?_
      refine RL.assign rfl ?_
      refine RL.nil ?_
      refine X.seq ?_
      refine X.region rfl ?_
      refine RL.bs0 rfl rfl sl22 ?_
      intro b1 hb1
      refine RL.move rfl ?_
      refine RL.drop (L' := [(b1, cel 32 [])]) rfl (List.Sublist.cons_cons _ (List.nil_sublist _)) ?_
      refine RL.append (xs := []) (Lz := []) (ys := icells l) rfl rfl sl22 el_ins (by decide) (by decide) Try.underlying22 (by rw [List.append_nil]; exact List.Perm.refl _) rfl (Row.blk b1 0 0 [] [] rfl rfl (Nat.le_refl _)) rfl (ecells_len Ins.len l) (ecells_one Ins.one l) (fun w2 hw2 => .inr ⟨bb, oo, rfl, hw2.cellsI hc (by simp)⟩) (fun m hm => by simp only [List.length_nil] at hm; omega) ?_
      rw [List.nil_append]
      intro v2 Lr hrow
      rw [List.append_nil]
      obtain ⟨A2, m2, cp2, rfl, hm2, _, _⟩ := hrow.slice (by decide)
      obtain rfl : m2 = l.length := by rw [ecells_len Ins.len] at hm2; omega
      refine RL.bldC (vs := [(0, .int .i64 11)]) (cells := Ins.cells ⟨11, 0, 0⟩) rfl rfl (fun w => by kernel_rfl) ?_
      refine RL.bs1A (l := Ins.cells ⟨11, 0, 0⟩) rfl rfl sl22 zt32 rfl rfl (by decide) ?_
      intro b2 hb2
      refine RL.append (n := 1) (Lr := Lr) (Lz := [(b2, cel 32 (Ins.cells ⟨11, 0, 0⟩))]) (ys := Ins.cells ⟨11, 0, 0⟩) rfl rfl sl22 el_ins (by decide) (by decide) Try.underlying22 (List.perm_append_comm (l₁ := [_])) rfl hrow rfl rfl (Ins.one _) (fun w2 hw2 => .inr ⟨b2, 0, rfl, by simpa using hw2.cellsO (b := b2) (t := 32) (l := Ins.cells ⟨11, 0, 0⟩) (fr := (0, 0)) (by simp) 0⟩) (fun m hm => by rw [ecells_len Ins.len] at hm; omega) ?_
      intro v3 Lr3 hrow3
      rw [show icells l ++ Ins.cells ⟨11, 0, 0⟩ = icells (l ++ [⟨11, 0, 0⟩]) from by simp [ecells]] at hrow3
      obtain ⟨A3, m3, cp3, rfl, hm3, _, _⟩ := hrow3.slice (by decide)
      obtain rfl : m3 = (l ++ [(⟨11, 0, 0⟩ : Ins)]).length := by rw [ecells_len Ins.len] at hm3; omega
      refine RL.move rfl ?_
      refine RL.fn0 rfl rfl rfl en11 (fun w hw => (f_check (l ++ [⟨11, 0, 0⟩]) (by simp; omega) A3 cp3 w (row_rd hrow3 hw (fun p hp => by simp [hp])) s)) rfl ?_
      rintro _ _ rfl
      refine RL.move rfl ?_
      refine RL.extract rfl rfl rfl ?_
      refine RL.extract rfl rfl rfl ?_
      refine RL.extract rfl rfl rfl ?_
      refine RL.assign rfl ?_
      refine RL.assign rfl ?_
      refine RL.assign rfl ?_
      refine RL.nil ?_
      refine X.seq ?_
      refine X.region rfl ?_
      refine RL.move rfl ?_
      refine RL.cmp_t rfl rfl rfl rfl (by show ((_ : Int) ≠ _); exact hsh) ?_
      refine RL.move rfl ?_
      refine RL.move rfl ?_
      rcases Nat.lt_or_ge 31 l.length with h32 | h32
      · have h320 : l.length = 32 := by omega
        refine RL.cmp_t rfl rfl rfl rfl (by show ((_ : Int) ≠ _); exact (check_invalid (l := l ++ [⟨11, 0, 0⟩]) (s := s) (fun h => by have := h.len; simp at this; omega))) ?_
        refine RL.pick_t rfl rfl ?_
        refine RL.move rfl ?_
        refine RL.move rfl ?_
        refine RL.move rfl ?_
        refine RL.len rfl sl22 rfl ?_
        refine RL.cmp_s rfl rfl rfl rfl (fun h5 => ?_) (fun h5 => ?_)
        · replace h5 : (_ : Int) = _ := h5
          refine RL.move rfl ?_
          refine RL.skip rfl ?_
          refine RL.skip rfl ?_
          refine RL.skip rfl ?_
          refine RL.pick_t rfl rfl ?_
          refine RL.pick_t rfl rfl ?_
          refine RL.move rfl ?_
          refine RL.fn0 rfl rfl rfl en10 (fun w hw => (f_awake w)) rfl ?_
          rintro _ _ rfl
          refine RL.pick_t rfl rfl ?_
          refine RL.assign rfl ?_
          refine RL.nil ?_
          refine X.ret ?_
          refine ret1 rfl ?_
          show (_ : Value) = _
          rfl
        · replace h5 : ¬ ((_ : Int) = _) := h5
          refine RL.move rfl ?_
          refine RL.move rfl ?_
          refine RL.len rfl sl22 rfl ?_
          refine RL.cmp_t rfl rfl rfl rfl (by show ((_ : Int) = _); omega) ?_
          refine RL.pick_f rfl rfl ?_
          refine RL.pick_t rfl rfl ?_
          refine RL.move rfl ?_
          refine RL.fn0 rfl rfl rfl en10 (fun w hw => (f_awake w)) rfl ?_
          rintro _ _ rfl
          refine RL.pick_t rfl rfl ?_
          refine RL.assign rfl ?_
          refine RL.nil ?_
          refine X.ret ?_
          refine ret1 rfl ?_
          show (_ : Value) = _
          rfl
      · have hlg := hv.longer (by omega)
        refine RL.cmp_t rfl rfl rfl rfl (by show ((_ : Int) ≠ _); rw [hlg]; exact (by decide : (5 : Int) ≠ 0)) ?_
        refine RL.pick_t rfl rfl ?_
        refine RL.move rfl ?_
        refine RL.move rfl ?_
        refine RL.move rfl ?_
        refine RL.len rfl sl22 rfl ?_
        refine RL.cmp_t rfl rfl rfl rfl (by show ((_ : Int) = _); rw [hlg]) ?_
        refine RL.move rfl ?_
        refine RL.skip rfl ?_
        refine RL.skip rfl ?_
        refine RL.skip rfl ?_
        refine RL.pick_t rfl rfl ?_
        refine RL.pick_t rfl rfl ?_
        refine RL.move rfl ?_
        refine RL.fn0 rfl rfl rfl en10 (fun w hw => (f_awake w)) rfl ?_
        rintro _ _ rfl
        refine RL.pick_t rfl rfl ?_
        refine RL.assign rfl ?_
        refine RL.nil ?_
        refine X.ret ?_
        refine ret1 rfl ?_
        show (_ : Value) = _
        rfl
end Go.Proofs.Ytaklegcphmfghaa

/- Methods told. -/
import Derived.Test.YtdnnnbjmjjdcfaaE1
import Derived.Test.YtdnnnbjmjjdcfaaFinds
set_option linter.unusedVariables false
set_option linter.unusedSimpArgs false
namespace Go.Proofs.Ytdnnnbjmjjdcfaa
open Go.RowKit
attribute [local irreducible] X RL W Ctr
theorem f_clone (l : List Ins) (hlen : l.length ≤ 1000) (A : Option Addr) (c : Nat) (w : World) (h1 : Rd w A (icells l)) :
    Ctr Try.prog 40 [.slice A l.length c] w [] fun v L => ∃ A2 cp2 Lr, v = .slice A2 l.length cp2 ∧ Row 61 3 (.slice A2 l.length cp2) (icells (l)) Lr ∧ Lr.Sublist L := by
 obtain ⟨bb, oo, hA0, hc⟩ := h1
 have hA : 0 < l.length → A = some ⟨bb, oo, none⟩ := fun h => hA0 (by rw [ecells_len Ins.len]; omega)
 cases hn : A.isNone
 rotate_left
 ·have h0 : l = [] := by
    rcases Nat.eq_zero_or_pos l.length with h0 | h0
    · exact List.eq_nil_of_length_eq_zero h0
    · rw [hA h0] at hn; cases hn
  subst h0
  refine Ctr.intro0 (n := 8) Try.func40 rfl Try.ntmps40 (Nat.le_of_ble_eq_true rfl) ?_
  refine X.seq ?_
  refine X.region rfl ?_
  refine RL.assign rfl ?_
  refine RL.nil ?_
  refine X.seq ?_
  refine X.seq ?_
  refine X.region rfl ?_
  refine RL.move rfl ?_
  refine RL.eqSn rfl sl56 rfl rfl hn ?_
  refine RL.nil ?_
  refine X.cond_t rfl ?_
  refine X.seq ?_
  refine X.region rfl ?_
  refine RL.assign rfl ?_
  refine RL.nil ?_
  refine X.ret ?_
  exact ret1 rfl ⟨none, 0, [], rfl, Row.nil, List.nil_sublist _⟩
 ·refine Ctr.intro0 (n := 8) Try.func40 rfl Try.ntmps40 (Nat.le_of_ble_eq_true rfl) ?_
  refine X.seq ?_
  refine X.region rfl ?_
  refine RL.assign rfl ?_
  refine RL.nil ?_
  refine X.seq ?_
  refine X.seq ?_
  refine X.region rfl ?_
  refine RL.move rfl ?_
  refine RL.eqSn rfl sl56 rfl rfl hn ?_
  refine RL.nil ?_
  refine X.cond_f rfl ?_
  refine X.skip ?_
  refine X.seq ?_
  refine X.region rfl ?_
  refine RL.bs0 rfl rfl sl56 ?_
  intro b1 hb1
  refine RL.move rfl ?_
  refine RL.append (xs := []) (Lz := []) (ys := icells l) rfl rfl sl56 el_ins (by decide) (by decide) Try.underlying56 (by rw [List.append_nil]; exact List.Perm.refl _) rfl (Row.blk b1 0 0 [] [] rfl rfl (Nat.le_refl _)) rfl (ecells_len Ins.len l) (ecells_one Ins.one l) (fun w2 hw2 => ?_) (fun m hm => by simp only [List.length_nil] at hm; omega) ?_
  · rcases Nat.eq_zero_or_pos l.length with h0 | h0
    · exact .inl (List.eq_nil_of_length_eq_zero (by rw [ecells_len Ins.len, h0]))
    · exact .inr ⟨bb, oo, hA h0, hw2.cellsI hc (by simp)⟩
  rw [List.nil_append]
  intro v2 Lr hrow
  rw [List.append_nil]
  obtain ⟨A2, m2, cp2, rfl, hm2, _, _⟩ := hrow.slice (by decide)
  obtain rfl : m2 = l.length := by rw [ecells_len Ins.len] at hm2; omega
  refine RL.assign rfl ?_
  refine RL.nil ?_
  refine X.ret ?_
  exact ret1 rfl ⟨A2, cp2, Lr, rfl, hrow, List.Sublist.refl _⟩
theorem f_method (cl : Cl) (cs : List Value) (hsz : ClSz cl) (w : World) (hcl : ClR w cl cs) (k : Int) :
    Ctr Try.prog 26 [.agg cs.toArray, .int .i64 k] w [] fun v L => (∃ (i : Nat) (l : List Ins), k = i ∧ cl.methods[i]? = some l ∧ ∃ A2 cp2 Lr, v = .tuple #[.slice A2 l.length cp2, .int .i64 0] ∧ Row 61 3 (.slice A2 l.length cp2) (icells (l)) Lr ∧ Lr.Sublist L) ∨ ((k < 0 ∨ (cl.methods.length : Int) ≤ k) ∧ v = .tuple #[.slice none 0 0, .int .i64 19]) := by
 obtain ⟨hid, hfo, Af, cf, Am, cm, ms, rfl, hrf, ⟨bm, om, hAm, hcm⟩, hms⟩ := hcl
 rw [hms.1] at hAm
 have hfs := hsz.faces
 have hmz := hsz.methods
 refine Ctr.intro0 (n := 21) Try.func26 rfl Try.ntmps26 (Nat.le_of_ble_eq_true rfl) ?_
 refine X.seq ?_
 refine X.region rfl ?_
 refine RL.boxA rfl rfl rfl ?_
 intro b2 hb2
 dsimp only at hb2
 refine RL.assign rfl ?_
 refine RL.assign rfl ?_
 refine RL.nil ?_
 refine X.seq ?_
 refine X.seq ?_
 refine X.region rfl ?_
 refine RL.move rfl ?_
 refine RL.cmp_s rfl rfl rfl rfl (fun h0 => ?_) (fun h0 => ?_)
 ·replace h0 : (_ : Int) < _ := h0
  refine RL.move rfl ?_
  refine RL.skip rfl ?_
  refine RL.skip rfl ?_
  refine RL.skip rfl ?_
  refine RL.skip rfl ?_
  refine RL.skip rfl ?_
  refine RL.pick_t rfl rfl ?_
  refine RL.nil ?_
  refine X.cond_t rfl ?_
  refine X.seq ?_
  refine X.region rfl ?_
  refine RL.assign rfl ?_
  refine RL.assign rfl ?_
  refine RL.nil ?_
  refine X.ret ?_
  exact ret2 rfl (.inr ⟨.inl (by omega), rfl⟩)
 ·replace h0 : ¬ ((_ : Int) < _) := h0
  refine RL.move rfl ?_
  refine RL.move rfl ?_
  refine RL.fieldAddr rfl fd38_3 rfl ?_
  refine RL.loadO rfl sc36 rfl (clCells_m hid) ?_
  refine RL.len rfl sl36 rfl ?_
  refine RL.cmp_s rfl rfl rfl rfl (fun h1 => ?_) (fun h1 => ?_)
  ·replace h1 : (_ : Int) ≥ _ := h1
   refine RL.pick_f rfl rfl ?_
   refine RL.nil ?_
   refine X.cond_t rfl ?_
   refine X.seq ?_
   refine X.region rfl ?_
   refine RL.assign rfl ?_
   refine RL.assign rfl ?_
   refine RL.nil ?_
   refine X.ret ?_
   exact ret2 rfl (.inr ⟨.inr (by omega), rfl⟩)
  ·replace h1 : ¬ ((_ : Int) ≥ _) := h1
   obtain ⟨i, rfl⟩ : ∃ i : Nat, k = (i : Int) := ⟨k.toNat, by omega⟩
   obtain ⟨l, hl⟩ : ∃ l, cl.methods[i]? = some l := ⟨_, List.getElem?_eq_getElem (by omega)⟩
   obtain ⟨Al, c2, hml, hrl⟩ := hms.2 i l hl
   have hll := hsz.rows l (List.mem_of_getElem? hl)
   refine RL.pick_f rfl rfl ?_
   refine RL.nil ?_
   refine X.cond_f rfl ?_
   refine X.skip ?_
   refine X.seq ?_
   refine X.region rfl ?_
   refine RL.fieldAddr rfl fd38_3 rfl ?_
   refine RL.loadO rfl sc36 rfl (clCells_m hid) ?_
   refine RL.move rfl ?_
   refine RL.indexAddr rfl sl36 rfl rfl (hAm (by omega)) rfl (by omega) ?_
   refine RL.loadI rfl sc56 rfl (by rw [Nat.mul_one]; exact hcm i _ hml) (by simp) ?_
   refine RL.fn0 rfl rfl rfl en40 (fun w hw => (f_clone l hll Al c2 w (hrl.st0 hw))) rfl ?_
   rintro _ _ ⟨A2, cp2, Lr, rfl, hr, hs⟩
   refine RL.assign rfl ?_
   refine RL.assign rfl ?_
   refine RL.nil ?_
   refine X.ret ?_
   exact ret2 rfl (.inl ⟨i, l, rfl, hl, A2, cp2, Lr, rfl, hr, hs.trans (List.sublist_append_left _ _)⟩)
end Go.Proofs.Ytdnnnbjmjjdcfaa

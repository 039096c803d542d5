/- What a range over the heights gathers. -/
import Derived.Test.YtaklegcphmfghaaA6
set_option linter.unusedVariables false
set_option linter.unusedSimpArgs false
namespace Go.Proofs.Ytaklegcphmfghaa
open Go.RowKit
attribute [local irreducible] X RL W Ctr
theorem f_heights (l : List Ins) (hlen : l.length ≤ 1000) (A : Option Addr) (c : Nat) (w : World) (hrd : Rd w A (icells l)) (m : Nat) :
    Ctr Try.prog 14 [.slice A l.length c, .int .i64 m] w [] fun v L => ∃ va vb La Lb, v = .tuple #[va, vb] ∧ (Lb ++ La).Sublist L ∧ IRow va (((told l).take m).map (·.1)) La ∧ IRow vb (((told l).take m).map (·.2)) Lb := by
  obtain ⟨bb, oo, hA0, hc⟩ := hrd
  have hA : 0 < l.length → A = some ⟨bb, oo, none⟩ := fun h => hA0 (by rw [ecells_len Ins.len]; omega)
  have hbl : 0 < l.length → bb < w.heap.size := fun h => Rd.lt hc (by rw [ecells_len Ins.len]; omega)
  have hll := told_le l
  refine Ctr.intro0 (n := 32) Try.func14 rfl Try.ntmps14 (Nat.le_of_ble_eq_true rfl) ?_
  refine X.seq ?_
  refine X.region rfl ?_
  refine RL.boxI rfl rfl rfl ?_
  intro k3 hk3
  dsimp only at hk3
  refine RL.assign rfl ?_
  refine RL.assign rfl ?_
  refine RL.nil ?_
  refine X.seq ?_
  refine X.region rfl ?_
  refine RL.alloc rfl rfl zt28 ?_
  intro k6 hk6
  dsimp only at hk6
  refine RL.alloc rfl rfl zt28 ?_
  intro k7 hk7
  dsimp only at hk7
  refine RL.nil ?_
  refine X.seq ?_
  refine X.seq ?_
  refine X.region rfl ?_
  refine RL.move rfl ?_
  refine RL.fn0 rfl rfl rfl en23 (fun w hw => (f_h0 A l.length c w)) rfl ?_
  rintro _ _ ⟨d1, rfl, rfl⟩
  refine RL.assign rfl ?_
  refine RL.nil ?_
  refine X.seq ?_
  refine X.region rfl ?_
  refine RL.move rfl ?_
  refine RL.neNilF rfl Try.underlying51 rfl rfl ?_
  refine RL.nil ?_
  refine X.cond_t rfl ?_
  refine X.seq ?_
  refine X.region rfl ?_
  refine RL.move rfl ?_
  refine RL.nil ?_
  refine X.block ?_
  refine X.fact (fun w2 h => h.nodup) (fun hnd => ?_)
  simp at hnd
  refine X.rangeFunc (encs := (fun x : Int × Int => [Value.int .i64 x.1, Value.int .i64 x.2])) (LB := [(k7, cel 28 [.slice none 0 0]), (k6, cel 28 [.slice none 0 0])]) (Lr := [(d1, cel 22 [.slice A l.length c]), (k3, cel 3 [.int .i64 m])]) (Av := (if 0 < l.length then [d1, bb] else [d1])) (hgI k6 k7 m) (hgX k6 k7 m) (fun pre x ρ L => Has ρ [(3, .pointer (some ⟨k3, 0, none⟩)), (6, .pointer (some ⟨k6, 0, none⟩)), (7, .pointer (some ⟨k7, 0, none⟩)), (9, .int .i64 x.1), (10, .int .i64 x.2)] ∧ hgI k6 k7 m pre L) rfl rfl en25 (by classical exact List.perm_iff_count.2 (fun z => by simp only [List.count_append, List.count_cons, List.count_nil, List.cons_append, List.nil_append, List.set_cons_zero, List.set_cons_succ]; omega)) (fun w3 Lm hst3 => f_hiter l hlen A c d1 bb oo (if 0 < l.length then [d1, bb] else [d1]) w3 (hst3.own (d1, _) (by simp)) hA (elem_st hst3 hc (fun _ => by simp)) (by split <;> simp) (fun h => by rw [if_pos h]; simp)) (by
      intro z hz
      have hz2 : z = d1 ∨ (0 < l.length ∧ z = bb) := by
        split at hz
        · rename_i h; simp at hz; exact hz.elim .inl (fun e => .inr ⟨h, e⟩)
        · simp at hz; exact .inl hz
      rcases hz2 with rfl | ⟨h, rfl⟩
      · simp [keys]; omega
      · have := hbl h; simp [keys]; omega) (fun _ => rfl) (⟨none, 0, [], none, 0, [], Row.nil, Row.nil, Nat.zero_le _, rfl⟩) ?_ ?_ ?_ ?_
  · intro pre x rest LB2 w2 l2 hF hI _
    refine X.seq ?_
    refine X.region rfl ?_
    refine RL.assign rfl ?_
    refine RL.nil ?_
    refine X.region rfl ?_
    refine RL.assign rfl ?_
    refine RL.nil ?_
    exact X.hyp ⟨rfl, ⟨rfl, rfl, rfl, rfl, rfl, trivial⟩, hI⟩
  · rintro pre x rest ρ2 _ w2 l2 hF ⟨hρ, A2, cp, La, B2, dp, Lb, hra, hrb, hpm, rfl⟩ ⟨Lo, hst⟩ hl hrec
    obtain ⟨base2, rfl⟩ := hρ.base
    clear hρ
    have hpl := told_pre hF
    have e3 := hst.cellB (b := k3) (t := 3) (v := .int .i64 m) (by simp)
    have n3 := hst.not_left (p := (k3, cel 3 [.int .i64 m])) (by simp)
    refine X.block ?_
    refine X.seq ?_
    refine X.seq ?_
    refine X.region rfl ?_
    refine RL.loadO rfl sc28 rfl rfl ?_
    refine RL.len rfl sl28 rfl ?_
    refine RL.loadI rfl sc3 rfl e3 n3 ?_
    refine RL.cmp_s rfl rfl rfl rfl (fun hm => ?_) (fun hm => ?_)
    · replace hm : (_ : Int) ≥ _ := hm
      refine RL.nil ?_
      refine X.cond_t rfl ?_
      refine X.exit_out rfl ?_
      exact ⟨_, List.Sublist.refl _, rfl, pre, x, rfl, ⟨A2, cp, La, B2, dp, Lb, hra, hrb, hpm, rfl⟩, by omega⟩
    · replace hm : ¬ ((_ : Int) ≥ _) := hm
      refine RL.nil ?_
      refine X.cond_f rfl ?_
      refine X.skip ?_
      refine X.seq ?_
      refine X.region rfl ?_
      refine RL.loadO rfl sc28 rfl rfl ?_
      refine RL.move rfl ?_
      refine RL.bs1I rfl rfl sl28 zt3 rfl ?_
      intro bb3 hbb3
      refine RL.app1I (Lr := La) (Lz := (Lb ++ [(k7, cel 28 [.slice B2 pre.length dp]), (k6, cel 28 [.slice A2 pre.length cp])])) rfl rfl sl28 el_int Try.underlying28 (by classical exact List.perm_iff_count.2 (fun z => by simp only [List.count_append, List.count_cons, List.count_nil, List.cons_append, List.nil_append, List.set_cons_zero, List.set_cons_succ]; omega)) rfl rfl hra (by rw [ints_length, List.length_map]; omega) (n := (pre ++ [x]).length) (by rw [ints_length]; simp) ?_
      intro A3 cp3 Lr3 hr3
      refine RL.stS rfl rfl sc28.size rfl rfl (by first | exact Nat.zero_lt_one | decide | simp) ?_
      refine RL.nil ?_
      refine X.region rfl ?_
      refine RL.loadO rfl sc28 rfl rfl ?_
      refine RL.move rfl ?_
      refine RL.bs1I rfl rfl sl28 zt3 rfl ?_
      intro bb4 hbb4
      refine RL.app1I (Lr := Lb) (Lz := (Lr3 ++ ([(k7, cel 28 [.slice B2 pre.length dp]), (k6, cel 28 [.slice A3 (pre ++ [x]).length cp3])] ++ [(bb3, cel 3 [.int .i64 x.1])]))) rfl rfl sl28 el_int Try.underlying28 (by classical exact List.perm_iff_count.2 (fun z => by simp only [List.count_append, List.count_cons, List.count_nil, List.cons_append, List.nil_append, List.set_cons_zero, List.set_cons_succ]; omega)) rfl rfl hrb (by rw [ints_length, List.length_map]; omega) (n := (pre ++ [x]).length) (by rw [ints_length]; simp) ?_
      intro A4 cp4 Lr4 hr4
      refine RL.stS rfl rfl sc28.size rfl rfl (by first | exact Nat.zero_lt_one | decide | simp) ?_
      refine RL.nil ?_
      refine X.blk ?_
      refine X.nil ?_
      refine ⟨Lr4 ++ (Lr3 ++ [(k7, cel 28 [.slice A4 (pre ++ [x]).length cp4]), (k6, cel 28 [.slice A3 (pre ++ [x]).length cp3])]), ?_, A3, cp3, Lr3, A4, cp4, Lr4, by rw [List.map_append]; exact hr3.irow, by rw [List.map_append]; exact hr4.irow, by simp; omega, rfl⟩
      exact List.Sublist.append (List.Sublist.refl _) ((List.Sublist.append (List.Sublist.refl _) (List.sublist_append_left _ _)).trans (List.sublist_append_left _ _))
  · rintro LB2 D ⟨A2, cp, La, B2, dp, Lb, hra, hrb, hpm, rfl⟩
    refine X.blk ?_
    refine X.seq ?_
    refine X.draw (by kernel_rfl) (by kernel_rfl) ?_
    refine RL.loadO rfl sc28 rfl rfl ?_
    refine RL.loadO rfl sc28 rfl rfl ?_
    refine RL.assign rfl ?_
    refine RL.assign rfl ?_
    refine RL.nil ?_
    refine X.ret ?_
    refine retm2 rfl ?_
    rw [List.take_of_length_le hpm]
    exact ⟨_, _, La, Lb, rfl, (((List.Sublist.refl Lb).append (List.sublist_append_left La _)).trans (List.sublist_append_left _ _)), IRow.mk hra (by simp), IRow.mk hrb (by simp)⟩
  · rintro e pre x rest LB2 D hF hex ⟨rfl, p, x2, hp, ⟨A2, cp, La, B2, dp, Lb, hra, hrb, hpm, rfl⟩, hpl⟩
    obtain ⟨rfl, _⟩ := List.append_inj' hp rfl
    have htk : (told l).take m = pre := by rw [hF, ← hpl]; simp
    refine X.exit (id := 0) rfl ?_
    refine X.seq ?_
    refine X.draw (by kernel_rfl) (by kernel_rfl) ?_
    refine RL.loadO rfl sc28 rfl rfl ?_
    refine RL.loadO rfl sc28 rfl rfl ?_
    refine RL.assign rfl ?_
    refine RL.assign rfl ?_
    refine RL.nil ?_
    refine X.ret ?_
    refine retm2 rfl ?_
    rw [htk]
    exact ⟨_, _, La, Lb, rfl, (((List.Sublist.refl Lb).append (List.sublist_append_left La _)).trans (List.sublist_append_left _ _)), IRow.mk hra (by simp), IRow.mk hrb (by simp)⟩
end Go.Proofs.Ytaklegcphmfghaa

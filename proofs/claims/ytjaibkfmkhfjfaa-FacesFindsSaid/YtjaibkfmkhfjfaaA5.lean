/- The law's own line: what a range over the iterator gathers. -/
import Derived.Test.YtjaibkfmkhfjfaaA4
set_option linter.unusedVariables false
set_option linter.unusedSimpArgs false
namespace Go.Proofs.Ytjaibkfmkhfjfaa
open Go.RowKit
attribute [local irreducible] X RL W Ctr
theorem f_lline (fs : List Face) (hok : ∀ f ∈ fs, FaceOk f) (hlen : fs.length ≤ 1000) (A : Option Addr) (c : Nat) (w : World) (hrd : Rd w A (fcells fs)) (i : Int) (m : Nat) :
    Ctr Try.prog 16 [.slice A fs.length c, .int .i64 i, .int .i64 m] w [] fun v L => SRow v ((lineP fs i).take m) L := by
  obtain ⟨bb, oo, hA0, hc⟩ := hrd
  have hA : 0 < fs.length → A = some ⟨bb, oo, none⟩ := fun h => hA0 (by rw [fcells_len hok]; omega)
  have hbl : 0 < fs.length → bb < w.heap.size := fun h => Rd.lt hc (by rw [fcells_len hok]; omega)
  have hll := lineP_len fs i
  refine Ctr.intro0 (n := 26) Try.func16 rfl Try.ntmps16 (Nat.le_of_ble_eq_true rfl) ?_
  refine X.seq ?_
  refine X.region rfl ?_
  refine RL.boxI rfl rfl rfl ?_
  intro k5 hk5
  dsimp only at hk5
  refine RL.assign rfl ?_
  refine RL.nil ?_
  refine X.seq ?_
  refine X.region rfl ?_
  refine RL.alloc rfl rfl zt32 ?_
  intro k7 hk7
  dsimp only at hk7
  refine RL.nil ?_
  refine X.seq ?_
  refine X.seq ?_
  refine X.region rfl ?_
  refine RL.move rfl ?_
  refine RL.move rfl ?_
  refine RL.fn0 rfl rfl rfl en26 (fun w hw => (f_line A fs.length c i w)) rfl ?_
  rintro _ _ ⟨d2, d1, rfl, rfl⟩
  refine RL.assign rfl ?_
  refine RL.nil ?_
  refine X.seq ?_
  refine X.region rfl ?_
  refine RL.move rfl ?_
  refine RL.neNilF rfl Try.underlying49 rfl rfl ?_
  refine RL.nil ?_
  refine X.cond_t rfl ?_
  refine X.seq ?_
  refine X.region rfl ?_
  refine RL.move rfl ?_
  refine RL.nil ?_
  refine X.block ?_
  refine X.fact (fun w2 h => h.nodup) (fun hnd => ?_)
  simp at hnd
  refine X.rangeFunc (encs := (fun x : Int => [Value.int .i64 x])) (LB := [(k7, cel 32 [.slice none 0 0])]) (Lr := [(d2, cel 3 [.int .i64 i]), (d1, cel 22 [.slice A fs.length c]), (k5, cel 3 [.int .i64 m])]) (Av := avF fs d2 d1 bb) (lnI k7 m) (lnX k7 m) (fun pre x ρ L => Has ρ [(5, .pointer (some ⟨k5, 0, none⟩)), (7, .pointer (some ⟨k7, 0, none⟩)), (9, .int .i64 x)] ∧ lnI k7 m pre L) rfl rfl en27 (List.perm_middle (l₁ := [_, _]) (l₂ := [_])) (fun w3 Lm hst3 => f_iter fs hok hlen A c i d1 d2 bb oo (avF fs d2 d1 bb) w3 (hst3.own (d2, _) (by simp)) (hst3.own (d1, _) (by simp)) hA (fc_st hst3 hc (fun _ => by simp)) avF2 avF1 avFb) (avF_all (by simp [keys]; omega) (by simp [keys]; omega) (fun h => by have := hbl h; simp [keys]; omega)) (fun _ => rfl) (⟨none, 0, [], Row.nil, Nat.zero_le _, rfl⟩) ?_ ?_ ?_ ?_
  · intro pre x rest LB2 w2 l hF hI _
    refine X.region rfl ?_
    refine RL.assign rfl ?_
    refine RL.nil ?_
    exact X.hyp ⟨rfl, ⟨rfl, rfl, rfl, trivial⟩, hI⟩
  · rintro pre x rest ρ2 _ w2 l hF ⟨hρ, A2, cp, Lr2, hrow, hpm, rfl⟩ ⟨Lo, hst⟩ hl hrec
    obtain ⟨base2, rfl⟩ := hρ.base
    clear hρ
    have hpl := lineP_pre hF
    have e5 := hst.cellB (b := k5) (t := 3) (v := .int .i64 m) (by simp)
    have n5 := hst.not_left (p := (k5, cel 3 [.int .i64 m])) (by simp)
    refine X.block ?_
    refine X.seq ?_
    refine X.seq ?_
    refine X.region rfl ?_
    refine RL.loadO rfl sc32 rfl rfl ?_
    refine RL.len rfl sl32 rfl ?_
    refine RL.loadI rfl sc3 rfl e5 n5 ?_
    refine RL.cmp_s rfl rfl rfl rfl (fun hm => ?_) (fun hm => ?_)
    · replace hm : (_ : Int) ≥ _ := hm
      refine RL.nil ?_
      refine X.cond_t rfl ?_
      refine X.exit_out rfl ?_
      exact ⟨_, List.Sublist.refl _, rfl, pre, x, rfl, ⟨A2, cp, Lr2, hrow, hpm, rfl⟩, by omega⟩
    · replace hm : ¬ ((_ : Int) ≥ _) := hm
      refine RL.nil ?_
      refine X.cond_f rfl ?_
      refine X.skip ?_
      refine X.region rfl ?_
      refine RL.loadO rfl sc32 rfl rfl ?_
      refine RL.move rfl ?_
      refine RL.bs1I rfl rfl sl32 zt3 rfl ?_
      intro bb3 hbb3
      refine RL.app1I (Lz := [_]) rfl rfl sl32 el_int Try.underlying32 (List.Perm.refl _) rfl rfl hrow (by rw [ints_length]; omega) (n := (pre ++ [x]).length) (by simp [ints_length]) ?_
      intro A3 cp3 Lr3 hr3
      refine RL.stS rfl rfl sc32.size rfl rfl (by first | exact Nat.zero_lt_one | decide | simp) ?_
      refine RL.nil ?_
      refine X.blk ?_
      refine X.nil ?_
      exact ⟨Lr3 ++ [_], List.Sublist.append (List.Sublist.refl _) (List.sublist_append_left _ _), A3, cp3, Lr3, hr3.irow, by simp; omega, rfl⟩
  · rintro LB2 D ⟨A2, cp, Lr2, hrow, hpm, rfl⟩
    refine X.blk ?_
    refine X.seq ?_
    refine X.region rfl ?_
    refine RL.loadO rfl sc32 rfl rfl ?_
    refine RL.assign rfl ?_
    refine RL.nil ?_
    refine X.ret ?_
    refine retm1 rfl ?_
    rw [List.take_of_length_le hpm]
    exact ⟨Lr2, (List.sublist_append_left _ _).trans (List.sublist_append_left _ _), _, _, rfl, hrow⟩
  · rintro e pre x rest LB2 D hF hex ⟨rfl, p, x2, hp, ⟨A2, cp, Lr2, hrow, hpm, rfl⟩, hpl⟩
    obtain ⟨rfl, _⟩ := List.append_inj' hp rfl
    have htk : (lineP fs i).take m = pre := by rw [hF, ← hpl]; simp
    refine X.exit (id := 0) rfl ?_
    refine X.seq ?_
    refine X.region rfl ?_
    refine RL.loadO rfl sc32 rfl rfl ?_
    refine RL.assign rfl ?_
    refine RL.nil ?_
    refine X.ret ?_
    refine retm1 rfl ?_
    rw [htk]
    exact ⟨Lr2, (List.sublist_append_left _ _).trans (List.sublist_append_left _ _), _, _, rfl, hrow⟩
theorem f_is (fs : List Face) (hok : ∀ f ∈ fs, FaceOk f) (hlen : fs.length ≤ 1000) (A : Option Addr) (c : Nat) (w : World) (hrd : Rd w A (fcells fs)) (i j : Int) :
    Ctr Try.prog 19 [.slice A fs.length c, .int .i64 i, .int .i64 j] w [] fun v _ => v = .bool (isP fs i j) := by
  obtain ⟨bb, oo, hA0, hc⟩ := hrd
  have hA : 0 < fs.length → A = some ⟨bb, oo, none⟩ := fun h => hA0 (by rw [fcells_len hok]; omega)
  have hbl : 0 < fs.length → bb < w.heap.size := fun h => Rd.lt hc (by rw [fcells_len hok]; omega)
  refine Ctr.intro0 (n := 15) Try.func19 rfl Try.ntmps19 (Nat.le_of_ble_eq_true rfl) ?_
  refine X.seq ?_
  refine X.region rfl ?_
  refine RL.boxI rfl rfl rfl ?_
  intro k5 hk5
  dsimp only at hk5
  refine RL.alloc rfl rfl zt4 ?_
  intro k6 hk6
  dsimp only at hk6
  refine RL.nil ?_
  refine X.seq ?_
  refine X.seq ?_
  refine X.region rfl ?_
  refine RL.move rfl ?_
  refine RL.move rfl ?_
  refine RL.fn0 rfl rfl rfl en26 (fun w hw => (f_line A fs.length c i w)) rfl ?_
  rintro _ _ ⟨d2, d1, rfl, rfl⟩
  refine RL.nil ?_
  refine X.block ?_
  refine X.fact (fun w2 h => h.nodup) (fun hnd => ?_)
  simp at hnd
  refine X.rangeFunc (encs := (fun x : Int => [Value.int .i64 x])) (LB := [(k6, cel 4 [.bool false])]) (Lr := [(d2, cel 3 [.int .i64 i]), (d1, cel 22 [.slice A fs.length c]), (k5, cel 3 [.int .i64 j])]) (Av := avF fs d2 d1 bb) (isI k6 j) (isX k6 j) (fun pre x ρ L => Has ρ [(5, .pointer (some ⟨k5, 0, none⟩)), (6, .pointer (some ⟨k6, 0, none⟩)), (7, .int .i64 x)] ∧ isI k6 j pre L) rfl rfl en27 (List.perm_middle (l₁ := [_, _]) (l₂ := [_])) (fun w3 Lm hst3 => f_iter fs hok hlen A c i d1 d2 bb oo (avF fs d2 d1 bb) w3 (hst3.own (d2, _) (by simp)) (hst3.own (d1, _) (by simp)) hA (fc_st hst3 hc (fun _ => by simp)) avF2 avF1 avFb) (avF_all (by simp [keys]; omega) (by simp [keys]; omega) (fun h => by have := hbl h; simp [keys]; omega)) (fun _ => rfl) (⟨rfl, fun y h => by cases h⟩) ?_ ?_ ?_ ?_
  · intro pre x rest LB2 w2 l hF hI _
    refine X.region rfl ?_
    refine RL.assign rfl ?_
    refine RL.nil ?_
    exact X.hyp ⟨rfl, ⟨rfl, rfl, rfl, trivial⟩, hI⟩
  · rintro pre x rest ρ2 _ w2 l hF ⟨hρ, rfl, hno⟩ ⟨Lo, hst⟩ hl hrec
    obtain ⟨base2, rfl⟩ := hρ.base
    clear hρ
    have e5 := hst.cellB (b := k5) (t := 3) (v := .int .i64 j) (by simp)
    have n5 := hst.not_left (p := (k5, cel 3 [.int .i64 j])) (by simp)
    refine X.block ?_
    refine X.seq ?_
    refine X.region rfl ?_
    refine RL.move rfl ?_
    refine RL.loadI rfl sc3 rfl e5 n5 ?_
    refine RL.cmp_s rfl rfl rfl rfl (fun hm => ?_) (fun hm => ?_)
    · replace hm : (_ : Int) = _ := hm
      refine RL.nil ?_
      refine X.cond_t rfl ?_
      refine X.seq ?_
      refine X.region rfl ?_
      refine RL.stB rfl rfl sc4.size rfl rfl (by first | exact Nat.zero_lt_one | decide | simp) ?_
      refine RL.nil ?_
      refine X.ret ?_
      exact ⟨_, List.Sublist.refl _, rfl, by rw [← hm]; simp, rfl⟩
    · replace hm : ¬ ((_ : Int) = _) := hm
      refine RL.nil ?_
      refine X.cond_f rfl ?_
      refine X.skip ?_
      refine X.blk ?_
      refine X.nil ?_
      exact ⟨_, List.Sublist.refl _, rfl, all_snoc hno hm⟩
  · rintro LB2 D ⟨rfl, hno⟩
    refine X.blk ?_
    refine X.seq ?_
    refine X.region rfl ?_
    refine RL.stB rfl rfl sc4.size rfl rfl (by first | exact Nat.zero_lt_one | decide | simp) ?_
    refine RL.nil ?_
    refine X.ret ?_
    refine retmc1 rfl sc4 rfl rfl ?_
    show (_ : Value) = _
    rw [isP_false hno]
  · rintro e pre x rest LB2 D hF hex ⟨rfl, hj, rfl⟩
    refine X.ret ?_
    refine retmc1 rfl sc4 rfl rfl ?_
    show (_ : Value) = _
    rw [isP_true (mem_of_snoc hF hj)]
theorem f_common (fs : List Face) (hok : ∀ f ∈ fs, FaceOk f) (hlen : fs.length ≤ 1000) (A : Option Addr) (c : Nat) (w : World) (hrd : Rd w A (fcells fs)) (i j : Int) :
    Ctr Try.prog 17 [.slice A fs.length c, .int .i64 i, .int .i64 j] w [] fun v _ => v = (match commonP fs i j with | some a => .tuple #[.int .i64 a, .int .i64 0] | none => .tuple #[.int .i64 0, .int .i64 7]) := by
  obtain ⟨bb, oo, hA0, hc⟩ := hrd
  have hA : 0 < fs.length → A = some ⟨bb, oo, none⟩ := fun h => hA0 (by rw [fcells_len hok]; omega)
  have hbl : 0 < fs.length → bb < w.heap.size := fun h => Rd.lt hc (by rw [fcells_len hok]; omega)
  refine Ctr.intro0 (n := 26) Try.func17 rfl Try.ntmps17 (Nat.le_of_ble_eq_true rfl) ?_
  refine X.seq ?_
  refine X.region rfl ?_
  refine RL.boxS rfl rfl rfl ?_
  intro k3 hk3
  dsimp only at hk3
  refine RL.boxI rfl rfl rfl ?_
  intro k5 hk5
  dsimp only at hk5
  refine RL.assign rfl ?_
  refine RL.assign rfl ?_
  refine RL.nil ?_
  refine X.scope rfl ?_
  refine X.seq ?_
  refine X.region rfl ?_
  refine RL.alloc rfl rfl zt3 ?_
  intro k8 hk8
  dsimp only at hk8
  refine RL.stI rfl rfl sc3.size rfl rfl (by first | exact Nat.zero_lt_one | decide | simp) ?_
  refine RL.nil ?_
  refine X.seq ?_
  refine X.label ?_
  refine X.seq ?_
  refine X.seq ?_
  refine X.region rfl ?_
  refine RL.loadO rfl sc22 rfl rfl ?_
  refine RL.move rfl ?_
  refine RL.fn0 rfl rfl rfl en26 (fun w hw => (f_line A fs.length c i w)) rfl ?_
  rintro _ _ ⟨d2, d1, rfl, rfl⟩
  refine RL.nil ?_
  refine X.block ?_
  refine X.fact (fun w2 h => h.nodup) (fun hnd => ?_)
  simp at hnd
  refine X.rangeFunc (encs := (fun x : Int => [Value.int .i64 x])) (LB := [(k8, cel 3 [.int .i64 (-1)])]) (Lr := [(d2, cel 3 [.int .i64 i]), (d1, cel 22 [.slice A fs.length c]), (k5, cel 3 [.int .i64 j]), (k3, cel 22 [.slice A fs.length c])]) (Av := avF fs d2 d1 bb) (coI fs j k8) (coX fs j k8) (fun pre x ρ L => ∃ k9, Has ρ [(3, .pointer (some ⟨k3, 0, none⟩)), (5, .pointer (some ⟨k5, 0, none⟩)), (8, .pointer (some ⟨k8, 0, none⟩)), (9, .pointer (some ⟨k9, 0, none⟩))] ∧ L = [(k9, cel 3 [.int .i64 x]), (k8, cel 3 [.int .i64 (-1)])] ∧ ∀ y ∈ pre, isP fs j y = false) rfl rfl en27 (List.perm_middle (l₁ := [_, _]) (l₂ := [_, _])) (fun w3 Lm hst3 => f_iter fs hok hlen A c i d1 d2 bb oo (avF fs d2 d1 bb) w3 (hst3.own (d2, _) (by simp)) (hst3.own (d1, _) (by simp)) hA (fc_st hst3 hc (fun _ => by simp)) avF2 avF1 avFb) (avF_all (by simp [keys]; omega) (by simp [keys]; omega) (fun h => by have := hbl h; simp [keys]; omega)) (fun _ => rfl) (⟨rfl, fun y h => by cases h⟩) ?_ ?_ ?_ ?_
  · rintro pre x rest _ w2 l hF ⟨rfl, hno⟩ _
    refine X.region rfl ?_
    refine RL.alloc rfl rfl zt3 ?_
    intro k9 hk9
    dsimp only at hk9
    refine RL.stI rfl rfl sc3.size rfl rfl (by first | exact Nat.zero_lt_one | decide | simp) ?_
    refine RL.nil ?_
    exact X.hyp ⟨rfl, k9, ⟨rfl, rfl, rfl, rfl, trivial⟩, rfl, hno⟩
  · rintro pre x rest ρ2 _ w2 l hF ⟨k9, hρ, rfl, hno⟩ ⟨Lo, hst⟩ hl hrec
    obtain ⟨base2, rfl⟩ := hρ.base
    clear hρ
    have e5 := hst.cellB (b := k5) (t := 3) (v := .int .i64 j) (by simp)
    have n5 := hst.not_left (p := (k5, cel 3 [.int .i64 j])) (by simp)
    have e3 := hst.cellB (b := k3) (t := 22) (v := .slice A fs.length c) (by simp)
    have n3 := hst.not_left (p := (k3, cel 22 [.slice A fs.length c])) (by simp)
    have g9 : w.heap.size ≤ k9 := hst.ge (p := (k9, cel 3 [.int .i64 x])) (by simp)
    have hsz : w.heap.size ≤ w2.heap.size := hst.size
    have hc2 := fc_st hst hc (fun _ => by simp)
    refine X.block ?_
    refine X.seq ?_
    refine X.region rfl ?_
    refine RL.loadI rfl sc22 rfl e3 n3 ?_
    refine RL.loadI rfl sc3 rfl e5 n5 ?_
    refine RL.fn0 rfl rfl rfl en26 (fun w hw => (f_line A fs.length c j w)) rfl ?_
    rintro _ _ ⟨f2, f1, rfl, rfl⟩
    refine RL.nil ?_
    refine X.block ?_
    refine X.fact (fun w2 h => h.nodup) (fun hnd2 => ?_)
    simp at hnd2
    refine X.rangeFuncN (encs := (fun x : Int => [Value.int .i64 x])) (LB := [(k8, cel 3 [.int .i64 (-1)])]) (Lr := [(f2, cel 3 [.int .i64 j]), (f1, cel 22 [.slice A fs.length c]), (k9, cel 3 [.int .i64 x])]) (Av := avF fs f2 f1 bb) (ciI x k8) (ciX x k8) (fun pre y ρ L => Has ρ [(8, .pointer (some ⟨k8, 0, none⟩)), (9, .pointer (some ⟨k9, 0, none⟩)), (10, .int .i64 y)] ∧ ciI x k8 pre L) rfl hrec hl rfl en27 (List.perm_append_comm (l₁ := [_, _, _]) (l₂ := [_])) (fun w3 Lm hst3 => f_iter fs hok hlen A c j f1 f2 bb oo (avF fs f2 f1 bb) w3 (hst3.own (f2, _) (by simp)) (hst3.own (f1, _) (by simp)) hA (fc_st hst3 hc2 (fun h => by have := hbl h; simp [keys]; omega)) avF2 avF1 avFb) (avF_all (by simp [keys]; omega) (by simp [keys]; omega) (fun h => by have := hbl h; simp [keys]; omega)) (fun _ => rfl) (⟨rfl, fun y h => by cases h⟩) ?_ ?_ ?_ ?_
    · intro pre2 y rest2 LB2 w3 l2 hF2 hI _
      refine X.region rfl ?_
      refine RL.assign rfl ?_
      refine RL.nil ?_
      exact X.hyp ⟨rfl, ⟨rfl, rfl, rfl, trivial⟩, hI⟩
    · rintro pre2 y rest2 ρ3 _ w3 l2 hF2 ⟨hρ, rfl, hno2⟩ ⟨Lo2, hst2⟩ hl2 hrec2
      obtain ⟨base3, rfl⟩ := hρ.base
      clear hρ
      have e9 := hst2.cellB (b := k9) (t := 3) (v := .int .i64 x) (by simp)
      have n9 := hst2.not_left (p := (k9, cel 3 [.int .i64 x])) (by simp)
      refine X.block ?_
      refine X.seq ?_
      refine X.region rfl ?_
      refine RL.loadI rfl sc3 rfl e9 n9 ?_
      refine RL.move rfl ?_
      refine RL.cmp_s rfl rfl rfl rfl (fun hm => ?_) (fun hm => ?_)
      · replace hm : (_ : Int) = _ := hm
        refine RL.nil ?_
        refine X.cond_t rfl ?_
        refine X.seq ?_
        refine X.region rfl ?_
        refine RL.loadI rfl sc3 rfl e9 n9 ?_
        refine RL.stI rfl rfl sc3.size rfl rfl (by first | exact Nat.zero_lt_one | decide | simp) ?_
        refine RL.nil ?_
        refine X.exit_out rfl ?_
        exact ⟨_, List.Sublist.refl _, rfl, by rw [hm]; simp, rfl⟩
      · replace hm : ¬ ((_ : Int) = _) := hm
        refine RL.nil ?_
        refine X.cond_f rfl ?_
        refine X.skip ?_
        refine X.blk ?_
        refine X.nil ?_
        exact ⟨_, List.Sublist.refl _, rfl, all_snoc hno2 (Ne.symm hm)⟩
    · rintro LB2 ⟨rfl, hno2⟩
      refine X.blk ?_
      refine X.blk ?_
      refine X.nil ?_
      exact ⟨_, List.sublist_append_left _ _, rfl, all_snoc hno (isP_false hno2)⟩
    · rintro e pre2 y rest2 LB2 hF2 hex ⟨rfl, hx, rfl⟩
      refine X.exit_out (id := 0) rfl ?_
      exact ⟨_, List.sublist_append_left _ _, rfl, pre, x, rfl, hno, isP_true (mem_of_snoc hF2 hx), rfl⟩
  · rintro LB2 D ⟨rfl, hno⟩
    refine X.blk ?_
    refine X.seq ?_
    refine X.seq ?_
    refine X.region rfl ?_
    refine RL.loadO rfl sc3 rfl rfl ?_
    refine RL.cmp_t rfl rfl rfl rfl (by show ((_ : Int) < _); decide) ?_
    refine RL.nil ?_
    refine X.cond_t rfl ?_
    refine X.seq ?_
    refine X.region rfl ?_
    refine RL.assign rfl ?_
    refine RL.assign rfl ?_
    refine RL.nil ?_
    refine X.ret ?_
    refine retm2 rfl ?_
    show (_ : Value) = _
    unfold commonP
    rw [find_no hno]
  · rintro e pre x rest LB2 D hF hex ⟨rfl, p, x2, hp, hno, hx, rfl⟩
    obtain ⟨rfl, hp2⟩ := List.append_inj' hp rfl
    obtain rfl : x = x2 := by simpa using hp2
    have hx0 := (lineP_mem (mem_pre hF)).1
    refine X.exit (id := 0) rfl ?_
    refine X.seq ?_
    refine X.seq ?_
    refine X.region rfl ?_
    refine RL.loadO rfl sc3 rfl rfl ?_
    refine RL.cmp_f rfl rfl rfl rfl (by show ¬ ((_ : Int) < _); omega) ?_
    refine RL.nil ?_
    refine X.cond_f rfl ?_
    refine X.skip ?_
    refine X.seq ?_
    refine X.region rfl ?_
    refine RL.loadO rfl sc3 rfl rfl ?_
    refine RL.assign rfl ?_
    refine RL.assign rfl ?_
    refine RL.nil ?_
    refine X.ret ?_
    refine retm2 rfl ?_
    show (_ : Value) = _
    unfold commonP
    rw [show (lineP fs i).find? (isP fs j) = some x by rw [hF]; exact find_pre hno hx]
end Go.Proofs.Ytjaibkfmkhfjfaa

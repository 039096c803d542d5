/- The example; the walks of FrameSums and FrameNil. -/
import Derived.Test.YtekepfpkihnodaaB1
import Derived.Test.YtekepfpkihnodaaFrameL
set_option linter.unusedVariables false
set_option linter.unusedSimpArgs false
namespace Go.Proofs.Ytekepfpkihnodaa
open Go.RowKit
attribute [local irreducible] X RL W Ctr
theorem f_awake (w : World) : Ctr Try.prog 10 [] w [] fun v _ => v = .bool true := by
  have h0 : 0 < rowA.length := by decide
  have hcap := h0
  refine Ctr.intro0 (n := 32) Try.func10 rfl Try.ntmps10 (Nat.le_of_ble_eq_true rfl) ?_
  refine X.seq ?_
  refine X.region rfl ?_
  refine RL.assign rfl ?_
  refine RL.nil ?_
  refine X.seq ?_
  refine X.region rfl ?_
  refine RL.bldC (vs := [(0, .int .i64 2)]) (cells := [.int .i64 2, .int .i64 0, .int .i64 0]) rfl rfl (fun w => by kernel_rfl) ?_
  refine RL.bldC (vs := [(0, .int .i64 3)]) (cells := [.int .i64 3, .int .i64 0, .int .i64 0]) rfl rfl (fun w => by kernel_rfl) ?_
  refine RL.bldC (vs := [(0, .int .i64 5)]) (cells := [.int .i64 5, .int .i64 0, .int .i64 0]) rfl rfl (fun w => by kernel_rfl) ?_
  refine RL.bldC (vs := [(0, .int .i64 4)]) (cells := [.int .i64 4, .int .i64 0, .int .i64 0]) rfl rfl (fun w => by kernel_rfl) ?_
  refine RL.bldC (vs := [(0, .int .i64 3)]) (cells := [.int .i64 3, .int .i64 0, .int .i64 0]) rfl rfl (fun w => by kernel_rfl) ?_
  refine RL.bldC (vs := [(0, .int .i64 11)]) (cells := [.int .i64 11, .int .i64 0, .int .i64 0]) rfl rfl (fun w => by kernel_rfl) ?_
  refine RL.bsC (vs := [(0, .agg #[.int .i64 2, .int .i64 0, .int .i64 0]), (1, .agg #[.int .i64 3, .int .i64 0, .int .i64 0]), (2, .agg #[.int .i64 5, .int .i64 0, .int .i64 0]), (3, .agg #[.int .i64 4, .int .i64 0, .int .i64 0]), (4, .agg #[.int .i64 3, .int .i64 0, .int .i64 0]), (5, .agg #[.int .i64 11, .int .i64 0, .int .i64 0])]) (cells := icells rowA) rfl rfl sl28 (fun w => let ⟨v, a, b⟩ := zt27; ⟨v, a, b w⟩) rfl rfl rfl (by kernel_rfl) ?_
  intro b1 hb1
  refine RL.fn0 rfl rfl rfl en8 (fun w hw => (f_new rowA (by decide) (some ⟨b1, 0, none⟩) 6 w (rd_own hw) rowA_valid 5)) rfl ?_
  rintro _ _ ⟨fb, Ac, cc, Lc, rfl, hcode, hs⟩
  refine RL.drop (L' := [(fb, cel 53 [.slice Ac rowA.length cc, .int .i64 5, .int .i64 0, .slice none 0 0, .bool false, .bool false])] ++ Lc) rfl (hs.trans (List.sublist_append_left _ _)) ?_
  refine RL.move rfl ?_
  refine RL.extract rfl rfl rfl ?_
  refine RL.extract rfl rfl rfl ?_
  refine RL.assign rfl ?_
  refine RL.assign rfl ?_
  refine RL.nil ?_
  refine X.seq ?_
  refine X.region rfl ?_
  refine RL.move rfl ?_
  refine RL.fn (Lp := [] ++ [(fb, cel 53 [.slice Ac rowA.length cc, .int .i64 5, .int .i64 0, .slice none 0 0, .bool false, .bool false])]) (Lr := Lc) rfl rfl rfl en9 (by classical exact List.perm_iff_count.2 (fun z => by simp only [List.count_append, List.count_cons, List.count_nil, List.cons_append, List.nil_append, List.set_cons_zero, List.set_cons_succ] <;> omega)) (fun w1 hw1 => by
    obtain ⟨bc, e1, e2, e3⟩ := code_at hcode h0 hw1 (fun p hp => by simp [hp])
    have h := f_next rowA rowA_valid 5 0 2 ⟨0, [], false, false⟩ (FrOk.start rowA_valid) Ac cc bc 0 fb none 0 [] Row.nil (by decide) w1 (fun p hp => hw1.own p (List.mem_append_left _ hp)) (hw1.nodup.sublist ((List.sublist_append_left _ _).map _)) (fun _ => e1) e2 e3
    rw [rowA_next] at h; exact h) rfl ?_
  rintro _ _ ⟨rfl, A5, cp5, Lr5, hr5, hs5⟩
  refine RL.drop (L' := Lr5 ++ ((fb, cel 53 [.slice Ac rowA.length cc, .int .i64 5, .int .i64 (⟨5, [], false, true⟩ : Fr).pc, .slice A5 (⟨5, [], false, true⟩ : Fr).st.length cp5, .bool (⟨5, [], false, true⟩ : Fr).calls, .bool (⟨5, [], false, true⟩ : Fr).over]) :: Lc)) rfl ?_ ?_
  · have := hs5.append (List.Sublist.refl (Lc))
    rwa [List.append_assoc] at this
  refine RL.move rfl ?_
  refine RL.extract rfl rfl rfl ?_
  refine RL.extract rfl rfl rfl ?_
  refine RL.alloc rfl rfl zt30 ?_
  intro b1 hb1
  dsimp only at hb1
  refine RL.stA rfl rfl ag30.size rfl rfl (Ev.len _) rfl (Ev.one _) ?_
  refine RL.assign rfl ?_
  refine RL.nil ?_
  refine X.seq ?_
  refine X.region rfl ?_
  refine RL.move rfl ?_
  refine RL.cmp_t rfl rfl rfl rfl (by show ((_ : Int) = _); rfl) ?_
  refine RL.move rfl ?_
  refine RL.loadOA rfl ag30 rfl (take_all (Ev.len _)) (Ev.len _) ?_
  refine RL.bldC (vs := [(0, .int .i64 (1)), (3, .int .i64 (7))]) (cells := (⟨1, 0, 0, 7, 0⟩ : Ev).cells) rfl rfl (fun w => by kernel_rfl) ?_
  refine RL.eqA rfl eqg_ev rfl rfl (eq_ev _ _) (fun _ => ?_) (fun hne => absurd (rfl) hne)
  refine RL.pick_t rfl rfl ?_
  refine RL.move rfl ?_
  refine RL.move rfl ?_
  refine RL.cmp_t rfl rfl rfl rfl (by show ((_ : Int) = _); rfl) ?_
  refine RL.pick_t rfl rfl ?_
  refine RL.assign rfl ?_
  refine RL.nil ?_
  refine X.ret ?_
  refine ret1 rfl ?_
  show (_ : Value) = _
  rfl
theorem w_sums (a b : Int) (hb : -9223372036854775808 ≤ b ∧ b ≤ 9223372036854775807) (w : World) : Ctr Try.prog 3 [.int .i64 a, .int .i64 b] w [] fun v _ => v = .bool true := by
  have h0 : 0 < rowS.length := by decide
  have hcap := h0
  have hsum := w64_sum (a := a) hb
  refine Ctr.intro0 (n := 44) Try.func3 rfl Try.ntmps3 (Nat.le_of_ble_eq_true rfl) ?_
  refine X.seq ?_
  refine X.region rfl ?_
  refine RL.assign rfl ?_
  refine RL.nil ?_
  refine X.seq ?_
  refine X.region rfl ?_
  refine RL.bldC (vs := [(0, .int .i64 2)]) (cells := [.int .i64 2, .int .i64 0, .int .i64 0]) rfl rfl (fun w => by kernel_rfl) ?_
  refine RL.bldC (vs := [(0, .int .i64 3)]) (cells := [.int .i64 3, .int .i64 0, .int .i64 0]) rfl rfl (fun w => by kernel_rfl) ?_
  refine RL.bldC (vs := [(0, .int .i64 5)]) (cells := [.int .i64 5, .int .i64 0, .int .i64 0]) rfl rfl (fun w => by kernel_rfl) ?_
  refine RL.bldC (vs := [(0, .int .i64 2)]) (cells := [.int .i64 2, .int .i64 0, .int .i64 0]) rfl rfl (fun w => by kernel_rfl) ?_
  refine RL.bldC (vs := [(0, .int .i64 6)]) (cells := [.int .i64 6, .int .i64 0, .int .i64 0]) rfl rfl (fun w => by kernel_rfl) ?_
  refine RL.bldC (vs := [(0, .int .i64 5)]) (cells := [.int .i64 5, .int .i64 0, .int .i64 0]) rfl rfl (fun w => by kernel_rfl) ?_
  refine RL.bldC (vs := [(0, .int .i64 11)]) (cells := [.int .i64 11, .int .i64 0, .int .i64 0]) rfl rfl (fun w => by kernel_rfl) ?_
  refine RL.bsC (vs := [(0, .agg #[.int .i64 2, .int .i64 0, .int .i64 0]), (1, .agg #[.int .i64 3, .int .i64 0, .int .i64 0]), (2, .agg #[.int .i64 5, .int .i64 0, .int .i64 0]), (3, .agg #[.int .i64 2, .int .i64 0, .int .i64 0]), (4, .agg #[.int .i64 6, .int .i64 0, .int .i64 0]), (5, .agg #[.int .i64 5, .int .i64 0, .int .i64 0]), (6, .agg #[.int .i64 11, .int .i64 0, .int .i64 0])]) (cells := icells rowS) rfl rfl sl28 (fun w => let ⟨v, a, b⟩ := zt27; ⟨v, a, b w⟩) rfl rfl rfl (by kernel_rfl) ?_
  intro b1 hb1
  refine RL.move rfl ?_
  refine RL.fn0 rfl rfl rfl en8 (fun w hw => (f_new rowS (by decide) (some ⟨b1, 0, none⟩) 7 w (rd_own hw) rowS_valid a)) rfl ?_
  rintro _ _ ⟨fb, Ac, cc, Lc, rfl, hcode, hs⟩
  refine RL.drop (L' := [(fb, cel 53 [.slice Ac rowS.length cc, .int .i64 a, .int .i64 0, .slice none 0 0, .bool false, .bool false])] ++ Lc) rfl (hs.trans (List.sublist_append_left _ _)) ?_
  refine RL.move rfl ?_
  refine RL.extract rfl rfl rfl ?_
  refine RL.extract rfl rfl rfl ?_
  refine RL.assign rfl ?_
  refine RL.assign rfl ?_
  refine RL.nil ?_
  refine X.seq ?_
  refine X.region rfl ?_
  refine RL.move rfl ?_
  refine RL.move rfl ?_
  refine RL.fn (Lp := [] ++ [(fb, cel 53 [.slice Ac rowS.length cc, .int .i64 a, .int .i64 0, .slice none 0 0, .bool false, .bool false])]) (Lr := Lc) rfl rfl rfl en9 (by classical exact List.perm_iff_count.2 (fun z => by simp only [List.count_append, List.count_cons, List.count_nil, List.cons_append, List.nil_append, List.set_cons_zero, List.set_cons_succ] <;> omega)) (fun w1 hw1 => by
    obtain ⟨bc, e1, e2, e3⟩ := code_at hcode h0 hw1 (fun p hp => by simp [hp])
    have h := f_next rowS rowS_valid a 0 b ⟨0, [], false, false⟩ (FrOk.start rowS_valid) Ac cc bc 0 fb none 0 [] Row.nil (by decide) w1 (fun p hp => hw1.own p (List.mem_append_left _ hp)) (hw1.nodup.sublist ((List.sublist_append_left _ _).map _)) (fun _ => e1) e2 e3
    rw [rowS_next] at h; exact h) rfl ?_
  rintro _ _ ⟨rfl, A5, cp5, Lr5, hr5, hs5⟩
  refine RL.drop (L' := Lr5 ++ ((fb, cel 53 [.slice Ac rowS.length cc, .int .i64 a, .int .i64 (⟨6, [], false, true⟩ : Fr).pc, .slice A5 (⟨6, [], false, true⟩ : Fr).st.length cp5, .bool (⟨6, [], false, true⟩ : Fr).calls, .bool (⟨6, [], false, true⟩ : Fr).over]) :: Lc)) rfl ?_ ?_
  · have := hs5.append (List.Sublist.refl (Lc))
    rwa [List.append_assoc] at this
  refine RL.move rfl ?_
  refine RL.extract rfl rfl rfl ?_
  refine RL.extract rfl rfl rfl ?_
  refine RL.alloc rfl rfl zt30 ?_
  intro b1 hb1
  dsimp only at hb1
  refine RL.stA rfl rfl ag30.size rfl rfl (Ev.len _) rfl (Ev.one _) ?_
  refine RL.assign rfl ?_
  refine RL.nil ?_
  refine X.seq ?_
  refine X.region rfl ?_
  refine RL.move rfl ?_
  refine RL.cmp_t rfl rfl rfl rfl (by show ((_ : Int) = _); rfl) ?_
  refine RL.move rfl ?_
  refine RL.loadOA rfl ag30 rfl (take_all (Ev.len _)) (Ev.len _) ?_
  refine RL.move rfl ?_
  refine RL.bldC (vs := [(0, .int .i64 (1)), (3, .int .i64 (b))]) (cells := (⟨1, 0, 0, b, 0⟩ : Ev).cells) rfl rfl (fun w => by kernel_rfl) ?_
  refine RL.eqA rfl eqg_ev rfl rfl (eq_ev _ _) (fun _ => ?_) (fun hne => absurd (by rw [hsum]) hne)
  refine RL.pick_t rfl rfl ?_
  refine RL.move rfl ?_
  refine RL.move rfl ?_
  refine RL.move rfl ?_
  refine RL.cmp_t rfl rfl rfl rfl (by show ((_ : Int) = _); rfl) ?_
  refine RL.pick_t rfl rfl ?_
  refine RL.move rfl ?_
  refine RL.fn0 rfl rfl rfl en10 (fun w hw => (f_awake w)) rfl ?_
  rintro _ _ rfl
  refine RL.pick_t rfl rfl ?_
  refine RL.assign rfl ?_
  refine RL.nil ?_
  refine X.ret ?_
  refine ret1 rfl ?_
  show (_ : Value) = _
  rfl
theorem f_next0 (r v : Int) (w : World) : Ctr Try.prog 9 [.pointer none, .int .i64 r, .int .i64 v] w [] fun u _ => u = .tuple #[.agg (⟨5, 0, 0, 0, 12⟩ : Ev).cells.toArray, .int .i64 v] := by
  refine Ctr.intro0 (n := 144) Try.func9 rfl Try.ntmps9 (Nat.le_of_ble_eq_true rfl) ?_
  refine X.seq ?_
  refine X.region rfl ?_
  refine RL.alloc rfl rfl zt30 ?_
  intro b6 hb6
  dsimp only at hb6
  refine RL.assign rfl ?_
  refine RL.nil ?_
  refine X.scope rfl ?_
  refine X.seq ?_
  refine X.seq ?_
  refine X.region rfl ?_
  refine RL.move rfl ?_
  refine RL.eqP rfl Try.underlying22 rfl rfl rfl ?_
  refine RL.move rfl ?_
  refine RL.skip rfl ?_
  refine RL.skip rfl ?_
  refine RL.skip rfl ?_
  refine RL.skip rfl ?_
  refine RL.pick_t rfl rfl ?_
  refine RL.nil ?_
  refine X.cond_t rfl ?_
  refine X.seq ?_
  refine X.region rfl ?_
  refine RL.bldC (vs := [(0, .int .i64 (5)), (4, .int .i64 (12))]) (cells := (⟨5, 0, 0, 0, 12⟩ : Ev).cells) rfl rfl (fun w => by kernel_rfl) ?_
  refine RL.move rfl ?_
  refine RL.stA (l := (⟨0, 0, 0, 0, 0⟩ : Ev).cells) rfl rfl ag30.size rfl rfl (Ev.len _) (Ev.len ⟨0, 0, 0, 0, 0⟩) (Ev.one _) ?_
  refine RL.assign rfl ?_
  refine RL.nil ?_
  refine X.ret ?_
  refine retcA2 rfl ag30 rfl (Ev.len _) ?_
  rfl
theorem w_nil (r v : Int) (w : World) : Ctr Try.prog 7 [.int .i64 r, .int .i64 v] w [] fun v _ => v = .bool true := by
  refine Ctr.intro0 (n := 37) Try.func7 rfl Try.ntmps7 (Nat.le_of_ble_eq_true rfl) ?_
  refine X.seq ?_
  refine X.region rfl ?_
  refine RL.assign rfl ?_
  refine RL.nil ?_
  refine X.seq ?_
  refine X.region rfl ?_
  refine RL.assign rfl ?_
  refine RL.nil ?_
  refine X.seq ?_
  refine X.region rfl ?_
  refine RL.move rfl ?_
  refine RL.move rfl ?_
  refine RL.move rfl ?_
  refine RL.fn0 rfl rfl rfl en9 (fun w hw => (f_next0 r v w)) rfl ?_
  rintro _ _ rfl
  refine RL.move rfl ?_
  refine RL.extract rfl rfl rfl ?_
  refine RL.extract rfl rfl rfl ?_
  refine RL.alloc rfl rfl zt30 ?_
  intro b1 hb1
  dsimp only at hb1
  refine RL.stA rfl rfl ag30.size rfl rfl (Ev.len _) rfl (Ev.one _) ?_
  refine RL.assign rfl ?_
  refine RL.nil ?_
  refine X.seq ?_
  refine X.region rfl ?_
  refine RL.loadOA rfl ag30 rfl (take_all (Ev.len _)) (Ev.len _) ?_
  refine RL.bldC (vs := [(0, .int .i64 (5)), (4, .int .i64 (12))]) (cells := (⟨5, 0, 0, 0, 12⟩ : Ev).cells) rfl rfl (fun w => by kernel_rfl) ?_
  refine RL.eqA rfl eqg_ev rfl rfl (eq_ev _ _) (fun _ => ?_) (fun hne => absurd (rfl) hne)
  refine RL.move rfl ?_
  refine RL.move rfl ?_
  refine RL.move rfl ?_
  refine RL.cmp_t rfl rfl rfl rfl (by show ((_ : Int) = _); rfl) ?_
  refine RL.pick_t rfl rfl ?_
  refine RL.move rfl ?_
  refine RL.move rfl ?_
  refine RL.fn0 rfl rfl rfl en16 (fun w hw => (f_at0 w)) rfl ?_
  rintro _ _ rfl
  refine RL.cmp_t rfl rfl rfl rfl (by show ((_ : Int) = _); rfl) ?_
  refine RL.pick_t rfl rfl ?_
  refine RL.move rfl ?_
  refine RL.move rfl ?_
  refine RL.fn0 rfl rfl rfl en11 (fun w hw => (f_stk0 9 w)) rfl ?_
  rintro _ _ ⟨A6, cp6, Lr6, rfl, hr6, hs6⟩
  refine RL.len rfl sl35 rfl ?_
  refine RL.cmp_t rfl rfl rfl rfl (by show ((_ : Int) = _); rfl) ?_
  refine RL.pick_t rfl rfl ?_
  refine RL.move rfl ?_
  refine RL.fn0 rfl rfl rfl en10 (fun w hw => (f_awake w)) rfl ?_
  rintro _ _ rfl
  refine RL.pick_t rfl rfl ?_
  refine RL.assign rfl ?_
  refine RL.nil ?_
  refine X.ret ?_
  refine ret1 rfl ?_
  show (_ : Value) = _
  rfl
end Go.Proofs.Ytekepfpkihnodaa

/- The law: again and again. -/
import Derived.Test.YtnebpklmbefmfaaS1
import Derived.Test.YtnebpklmbefmfaaActs
set_option linter.unusedVariables false
set_option linter.unusedSimpArgs false
namespace Go.Proofs.Ytnebpklmbefmfaa
open Go.RowKit
attribute [local irreducible] X RL W Ctr
set_option maxHeartbeats 1000000 in
set_option maxRecDepth 10000 in
theorem w_again (d0 t what : Int) (ht : 0 ≤ t ∧ t ≤ 255) (w : World) :
    Ctr Try.prog 4 [.int .i64 d0, .int .u8 t, .int .i64 what] w [] fun v _ => v = .bool true := by
 have hT : t.tmod 40 = t % 40 := Int.tmod_eq_emod_of_nonneg ht.1
 obtain ⟨T, hT2⟩ : ∃ T : Nat, t % 40 = (T : Int) := ⟨(t % 40).toNat, by omega⟩
 refine Ctr.intro0 (n := 92) Try.func4 rfl Try.ntmps4 (Nat.le_of_ble_eq_true rfl) ?_
 refine X.seq ?_
 refine X.region rfl ?_
 refine RL.assign rfl ?_
 refine RL.nil ?_
 refine X.seq ?_
 refine X.region rfl ?_
 refine RL.move rfl ?_
 obtain ⟨d, ed, hd⟩ := pick_nat (d0) (n := 5) (by decide)
 refine RL.fn0 rfl rfl rfl en9 (fun w hw => ((f_pick (d0) 5 w (by decide) (by decide)).mono fun v L h => (by rw [h]; exact congrArg (Value.int .i64) ed : v = .int .i64 ((d : Nat) : Int)))) rfl ?_
 rintro _ _ rfl
 refine RL.drop rfl (List.sublist_append_right _ _) ?_
 refine RL.assign rfl ?_
 refine RL.nil ?_
 refine X.seq ?_
 refine X.region rfl ?_
 refine RL.fn0 rfl rfl rfl en11 (fun w hw => (f_one 1 w)) rfl ?_
 rintro _ _ ⟨A1, n1, rfl, L1, hm1, hs1⟩
 refine RL.drop (L' := L1) rfl (hs1.trans (List.sublist_append_left _ _)) ?_
 refine RL.fn0 rfl rfl rfl en11 (fun w hw => (f_one 2 w)) rfl ?_
 rintro _ _ ⟨A2, n2, rfl, L2, hm2, hs2⟩
 refine RL.drop (L' := L2 ++ L1) rfl (hs2.append (List.Sublist.refl _)) ?_
 refine RL.bsC (vs := [(0, .agg #[.slice A1 (oneM 1).length n1]), (1, .agg #[.slice A2 (oneM 2).length n2])]) (cells := [.slice A1 (oneM 1).length n1, .slice A2 (oneM 2).length n2]) rfl rfl sl32 (fun w => let ⟨v, a, b⟩ := zt30; ⟨v, a, b w⟩) rfl rfl rfl (by kernel_rfl) ?_
 intro bm hbm
 refine RL.move rfl ?_
 refine RL.fn (Lp := []) (Lr := (bm, cel 30 [.slice A1 (oneM 1).length n1, .slice A2 (oneM 2).length n2]) :: (L2 ++ L1)) rfl rfl rfl en10 (List.Perm.refl _) (fun w1 hw1 => f_new [oneM 1, oneM 2] two_sz (some ⟨bm, 0, none⟩) 2 (d : Nat) (by decide) w1 (ModsO.rd hw1 (ModsO.snoc (ModsO.snoc ModsO.nil hm1) hm2) (Row.blk bm 2 2 [.slice A1 (oneM 1).length n1, .slice A2 (oneM 2).length n2] [] rfl rfl (Nat.le_refl _)) (fun p hp => by simp only [List.nil_append, List.mem_append, List.mem_cons] at hp ⊢; rcases hp with hp | hp <;> simp [hp]) (fun p hp => by simp at hp; subst hp; simp)) two_b) rfl ?_
 rintro _ Lz (⟨hne, _⟩ | ⟨_, rb, A, cp, Lr, xs, Lst, rfl, hrow, hst, hsub⟩)
 · exact absurd (two_new d (by omega)) hne
 have hxl : xs.length = 2 := hst.len
 have hx5 : xs.length ≤ 1000 := by omega
 refine RL.drop (L' := RegG rb A cp Lr (d : Nat) xs [mv0, mv0] ++ Lst) rfl (hsub.trans (List.sublist_append_left _ _)) ?_
 refine RL.move rfl ?_
 refine RL.extract rfl rfl rfl ?_
 refine RL.extract rfl rfl rfl ?_
 refine RL.assign rfl ?_
 refine RL.assign rfl ?_
 refine RL.nil ?_
 refine X.seq ?_
 refine X.seq ?_
 refine X.region rfl ?_
 refine RL.move rfl ?_
 refine RL.cmp_f rfl rfl rfl rfl (by show ¬ ((_ : Int) ≠ _); decide) ?_
 refine RL.nil ?_
 refine X.cond_f rfl ?_
 refine X.skip ?_
 refine X.seq ?_
 refine X.region rfl ?_
 refine RL.move rfl ?_
 obtain ⟨q, eq, hq⟩ := pick_nat (what) (n := 3) (by decide)
 refine RL.fn0 rfl rfl rfl en9 (fun w hw => ((f_pick (what) 3 w (by decide) (by decide)).mono fun v L h => (by rw [h]; exact congrArg (Value.int .i64) eq : v = .int .i64 ((q : Nat) : Int)))) rfl ?_
 rintro _ _ rfl
 refine RL.drop rfl (List.sublist_append_right _ _) ?_
 refine RL.assign rfl ?_
 refine RL.nil ?_
 refine X.seq ?_
 refine X.seq ?_
 refine X.region rfl ?_
 refine RL.assign rfl ?_
 refine RL.nil ?_
 refine X.block ?_
 have hup := ag_up q hq
 have hdn := ag_dn q hq
 have hon := ag_on q hq
 refine X.loop (γ := Nat) (fun g ρ L => (True) ∧ Has ρ [(0, .int .i64 d), (1, .int .u8 t), (2, .int .i64 q), (7, .pointer (some ⟨rb, 0, none⟩)), (9, .int .i64 g)] ∧ L = RegG rb A cp Lr (((d : Nat) : Int)) xs ([mv0, mv0]) ++ Lst) (fun g => T - g) (0) ⟨_, (by repeat (first | exact sb0 _ | exact sb1 _ | (rw [List.append_nil]; exact sb0 _) | exact sb2 _ _ | exact sb3 _ _ _ | apply sb4 | apply sb5 | apply sb6)), trivial, ⟨rfl, rfl, rfl, rfl, rfl, trivial⟩, rfl⟩ ?_
 rintro g _ _ ⟨q1, hρ, rfl⟩
 obtain ⟨base, rfl⟩ := hρ.base
 clear hρ
 refine X.seq ?_
 refine X.seq ?_
 refine X.region rfl ?_
 refine RL.move rfl ?_
 refine RL.move rfl ?_
 refine RL.rem rfl rfl rfl (by decide) ?_
 refine RL.convE (b := (T : Int)) rfl Try.underlying5 Try.underlying3 rfl (by rw [hT, hT2]; exact wrap_i64 (by omega)) ?_
 refine RL.cmp_s rfl rfl rfl rfl (fun hg => ?_) (fun hg => ?_)
 ·replace hg : (_ : Int) < _ := hg
  refine RL.nil ?_
  refine X.cond_t rfl ?_
  refine X.skip ?_
  refine X.seq ?_
  refine X.block ?_
  refine X.seq ?_
  refine X.seq ?_
  refine X.region rfl ?_
  refine RL.move rfl ?_
  refine RL.fn0 rfl rfl rfl en15 (fun w hw => ((f_loaded 1 rb (d : Nat) xs [mv0, mv0] w (regG_reads hw hrow (by rw [hxl]; rfl) (fun p hp => List.mem_append_left _ hp))).mono fun v L h => (h.trans (by first | rfl | (exact congrArg Value.bool hon)) : v = .bool false))) rfl ?_
  rintro _ _ rfl
  refine RL.drop rfl (List.sublist_append_right _ _) ?_
  refine RL.move rfl ?_
  refine RL.move rfl ?_
  refine RL.move rfl ?_
  refine RL.fn (Lp := RegG rb A cp Lr (((d : Nat) : Int)) xs ([mv0, mv0])) (Lr := Lst) rfl rfl rfl en12 (List.Perm.refl _) (fun w1 hw1 => f_count (1) ((q : Nat)) true rb cp A Lr (((d : Nat) : Int)) xs ([mv0, mv0]) (by rw [hxl]; rfl) hx5 hrow w1 (fun p hp => hw1.own p (List.mem_append_left _ hp)) (hw1.nodup.sublist ((List.sublist_append_left _ _).map _))) rfl ?_
  rintro _ Lz ⟨rfl, rfl⟩
  rw [hup]
  refine RL.cmp_f rfl rfl rfl rfl (by show ¬ ((_ : Int) ≠ _); exact fun h => h rfl) ?_
  refine RL.pick_f rfl rfl ?_
  refine RL.move rfl ?_
  refine RL.move rfl ?_
  refine RL.fn0 rfl rfl rfl en15 (fun w hw => ((f_loaded 1 rb (d : Nat) xs [mv0, mv0.put q 1] w (regG_reads hw hrow (by rw [hxl]; rfl) (fun p hp => List.mem_append_left _ hp))).mono fun v L h => (h.trans (by first | rfl | (exact congrArg Value.bool hon)) : v = .bool true))) rfl ?_
  rintro _ _ rfl
  refine RL.drop rfl (List.sublist_append_right _ _) ?_
  refine RL.not rfl rfl ?_
  refine RL.pick_f rfl rfl ?_
  refine RL.move rfl ?_
  refine RL.move rfl ?_
  refine RL.fn0 rfl rfl rfl en15 (fun w hw => ((f_loaded 0 rb (d : Nat) xs [mv0, mv0.put q 1] w (regG_reads hw hrow (by rw [hxl]; rfl) (fun p hp => List.mem_append_left _ hp))).mono fun v L h => (h.trans (by first | rfl | (exact congrArg Value.bool hon)) : v = .bool false))) rfl ?_
  rintro _ _ rfl
  refine RL.drop rfl (List.sublist_append_right _ _) ?_
  refine RL.pick_f rfl rfl ?_
  refine RL.move rfl ?_
  refine RL.move rfl ?_
  refine RL.move rfl ?_
  refine RL.fn (Lp := RegG rb A cp Lr (((d : Nat) : Int)) xs ([mv0, mv0.put q 1])) (Lr := Lst) rfl rfl rfl en12 (List.Perm.refl _) (fun w1 hw1 => f_count (1) ((q : Nat)) false rb cp A Lr (((d : Nat) : Int)) xs ([mv0, mv0.put q 1]) (by rw [hxl]; rfl) hx5 hrow w1 (fun p hp => hw1.own p (List.mem_append_left _ hp)) (hw1.nodup.sublist ((List.sublist_append_left _ _).map _))) rfl ?_
  rintro _ Lz ⟨rfl, rfl⟩
  rw [hdn]
  refine RL.cmp_f rfl rfl rfl rfl (by show ¬ ((_ : Int) ≠ _); exact fun h => h rfl) ?_
  refine RL.pick_f rfl rfl ?_
  refine RL.nil ?_
  refine X.cond_f rfl ?_
  refine X.skip ?_
  refine X.seq ?_
  refine X.seq ?_
  refine X.region rfl ?_
  refine RL.assign rfl ?_
  refine RL.nil ?_
  refine X.block ?_
  refine X.loop (γ := Nat) (fun k ρ L => (k ≤ d) ∧ Has ρ [(0, .int .i64 d), (1, .int .u8 t), (2, .int .i64 q), (7, .pointer (some ⟨rb, 0, none⟩)), (9, .int .i64 g), (10, .int .i64 k)] ∧ L = RegG rb A cp Lr (((d : Nat) : Int)) xs ([mv0, ⟨true, 0, 0, 0, ((k : Nat) : Int)⟩]) ++ Lst) (fun k => d - k) (0) ⟨_, (by repeat (first | exact sb0 _ | exact sb1 _ | (rw [List.append_nil]; exact sb0 _) | exact sb2 _ _ | exact sb3 _ _ _ | apply sb4 | apply sb5 | apply sb6)), Nat.zero_le _, ⟨rfl, rfl, rfl, rfl, rfl, rfl, trivial⟩, rfl⟩ ?_
  rintro k _ _ ⟨q1, hρ, rfl⟩
  obtain ⟨base, rfl⟩ := hρ.base
  clear hρ
  refine X.seq ?_
  refine X.seq ?_
  refine X.region rfl ?_
  refine RL.move rfl ?_
  refine RL.move rfl ?_
  refine RL.cmp_s rfl rfl rfl rfl (fun hk => ?_) (fun hk => ?_)
  ·replace hk : (_ : Int) < _ := hk
   obtain ⟨f1, f2⟩ := ag_no d hd k (by omega)
   refine RL.nil ?_
   refine X.cond_t rfl ?_
   refine X.skip ?_
   refine X.seq ?_
   refine X.block ?_
   refine X.seq ?_
   refine X.seq ?_
   refine X.region rfl ?_
   refine RL.move rfl ?_
   refine RL.fn (Lp := RegG rb A cp Lr (((d : Nat) : Int)) xs ([mv0, ⟨true, 0, 0, 0, ((k : Nat) : Int)⟩])) (Lr := Lst) rfl rfl rfl en14 (List.Perm.refl _) (fun w1 hw1 => f_free rb cp A Lr (((d : Nat) : Int)) xs ([mv0, ⟨true, 0, 0, 0, ((k : Nat) : Int)⟩]) (by rw [hxl]; rfl) hx5 hrow w1 (fun p hp => hw1.own p (List.mem_append_left _ hp)) (hw1.nodup.sublist ((List.sublist_append_left _ _).map _))) rfl ?_
   rintro _ Lz ⟨Ao3, co3, Lo3, rfl, hro3, rfl⟩
   rw [(by rw [hxl]; exact f1 : freedP ((d : Nat) : Int) [mv0, ⟨true, 0, 0, 0, ((k : Nat) : Int)⟩] xs.length = [])] at hro3 ⊢
   rw [f2]
   refine RL.perm (L' := RegG rb A cp Lr (((d : Nat) : Int)) xs ([mv0, ⟨true, 0, 0, 0, ((k : Nat) : Int)⟩]) ++ (Lo3 ++ Lst)) rfl (by classical exact List.perm_iff_count.2 (fun z => by simp only [List.count_append, List.count_cons, List.count_nil, List.cons_append, List.nil_append, List.set_cons_zero, List.set_cons_succ] <;> omega)) ?_
   refine RL.len rfl sl38 rfl ?_
   refine RL.cmp_f rfl rfl rfl rfl (by show ¬ ((_ : Int) ≠ _); exact fun h => h rfl) ?_
   refine RL.nil ?_
   refine X.cond_f rfl ?_
   refine X.skip ?_
   refine X.region rfl ?_
   refine RL.move rfl ?_
   refine RL.fn (Lp := RegG rb A cp Lr (((d : Nat) : Int)) xs ([mv0, ⟨true, 0, 0, 0, ((k : Nat) : Int)⟩])) (Lr := (Lo3 ++ Lst)) rfl rfl rfl en13 (List.Perm.refl _) (fun w1 hw1 => f_tick rb cp A Lr (((d : Nat) : Int)) xs ([mv0, ⟨true, 0, 0, 0, ((k : Nat) : Int)⟩]) (by rw [hxl]; rfl) hx5 hrow w1 (fun p hp => hw1.own p (List.mem_append_left _ hp)) (hw1.nodup.sublist ((List.sublist_append_left _ _).map _))) rfl ?_
   rintro _ Lz ⟨rfl, rfl⟩
   rw [(ag_tick k (by omega))]
   refine RL.nil ?_
   refine X.blk ?_
   refine X.region rfl ?_
   refine RL.move rfl ?_
   refine RL.add rfl rfl rfl (by omega) ?_
   refine RL.assign rfl ?_
   refine RL.nil ?_
   refine X.hyp ⟨rfl, k + 1, by omega, _, ((List.Sublist.refl _).append (List.sublist_append_right _ _)), by omega, ⟨rfl, rfl, rfl, rfl, rfl, rfl, trivial⟩, rfl⟩
  replace hk : ¬ ((_ : Int) < _) := hk
  obtain rfl : k = d := by omega
  obtain ⟨f1, f2⟩ := ag_yes k hd
  refine RL.nil ?_
  refine X.cond_f rfl ?_
  refine X.exit rfl ?_
  refine X.seq ?_
  refine X.seq ?_
  refine X.region rfl ?_
  refine RL.move rfl ?_
  refine RL.fn (Lp := RegG rb A cp Lr (((k : Nat) : Int)) xs ([mv0, ⟨true, 0, 0, 0, ((k : Nat) : Int)⟩])) (Lr := Lst) rfl rfl rfl en14 (List.Perm.refl _) (fun w1 hw1 => f_free rb cp A Lr (((k : Nat) : Int)) xs ([mv0, ⟨true, 0, 0, 0, ((k : Nat) : Int)⟩]) (by rw [hxl]; rfl) hx5 hrow w1 (fun p hp => hw1.own p (List.mem_append_left _ hp)) (hw1.nodup.sublist ((List.sublist_append_left _ _).map _))) rfl ?_
  rintro _ Lz ⟨Ao4, co4, Lo4, rfl, hro4, rfl⟩
  rw [(by rw [hxl]; exact f1 : freedP ((k : Nat) : Int) [mv0, ⟨true, 0, 0, 0, ((k : Nat) : Int)⟩] xs.length = [1])] at hro4 ⊢
  rw [f2]
  refine RL.perm (L' := RegG rb A cp Lr (((k : Nat) : Int)) xs ([mv0, mv0]) ++ (Lo4 ++ Lst)) rfl (by classical exact List.perm_iff_count.2 (fun z => by simp only [List.count_append, List.count_cons, List.count_nil, List.cons_append, List.nil_append, List.set_cons_zero, List.set_cons_succ] <;> omega)) ?_
  refine RL.bs1I rfl rfl sl38 zt3 rfl ?_
  intro bz hbz
  refine RL.fn0 rfl rfl rfl en17 (fun w1 hw1 => (f_sameints [1] [1] Ao4 (some ⟨bz, 0, none⟩) co4 1 w1 (by decide) (by decide) (row_rd hro4 hw1 (fun p hp => by simp [hp])) ⟨bz, 0, fun _ => rfl, by have := hw1.cellsO (b := bz) (t := 3) (l := [.int .i64 1]) (fr := (0, 0)) (by simp) 0; exact (by simpa using this : CellsAt w1 bz 0 [.int .i64 1])⟩).mono fun v L h => (by rw [h]; rfl : v = .bool true)) rfl ?_
  rintro _ _ rfl
  refine RL.drop (L' := RegG rb A cp Lr (((k : Nat) : Int)) xs ([mv0, mv0]) ++ Lst) rfl (((List.Sublist.refl _).append (List.sublist_append_right _ _)).trans ((List.sublist_cons_self _ _).trans (List.sublist_append_right _ _))) ?_
  refine RL.not rfl rfl ?_
  refine RL.nil ?_
  refine X.cond_f rfl ?_
  refine X.skip ?_
  refine X.seq ?_
  refine X.region rfl ?_
  refine RL.move rfl ?_
  refine RL.bldC (vs := [(0, .int .u8 2)]) (cells := gcells (2 :: z15)) rfl rfl (fun w => by kernel_rfl) ?_
  refine RL.fn0 rfl rfl rfl en18 (fun w hw => ((f_rfind [oneM 1, oneM 2] two_sz (by decide) (2 :: z15) rfl rb (k : Nat) xs [mv0, mv0] w (regG_reads hw hrow (by rw [hxl]; rfl) (fun p hp => List.mem_append_left _ hp)) (hst.reads hw (fun p hp => List.mem_append_right _ hp))).mono fun v L h => (by rw [two_find] at h; exact h : v = .tuple #[.int .i64 ((1 : Nat) : Int), .int .i64 ((0 : Nat) : Int), .int .i64 0]))) rfl ?_
  rintro _ _ rfl
  refine RL.drop rfl (List.sublist_append_right _ _) ?_
  refine RL.move rfl ?_
  refine RL.extract rfl rfl rfl ?_
  refine RL.extract rfl rfl rfl ?_
  refine RL.extract rfl rfl rfl ?_
  refine RL.assign rfl ?_
  refine RL.assign rfl ?_
  refine RL.assign rfl ?_
  refine RL.nil ?_
  refine X.seq ?_
  refine X.region rfl ?_
  refine RL.move rfl ?_
  refine RL.cmp_f rfl rfl rfl rfl (by show ¬ ((_ : Int) ≠ _); exact fun h => h rfl) ?_
  refine RL.move rfl ?_
  refine RL.move rfl ?_
  refine RL.cmp_f rfl rfl rfl rfl (by show ¬ ((_ : Int) ≠ _); exact fun h => h rfl) ?_
  refine RL.pick_f rfl rfl ?_
  refine RL.move rfl ?_
  refine RL.move rfl ?_
  refine RL.cmp_f rfl rfl rfl rfl (by show ¬ ((_ : Int) ≠ _); exact fun h => h rfl) ?_
  refine RL.pick_f rfl rfl ?_
  refine RL.nil ?_
  refine X.cond_f rfl ?_
  refine X.skip ?_
  refine X.blk ?_
  refine X.region rfl ?_
  refine RL.move rfl ?_
  refine RL.add rfl rfl rfl (by omega) ?_
  refine RL.assign rfl ?_
  refine RL.nil ?_
  refine X.hyp ⟨rfl, g + 1, by omega, _, (by repeat (first | exact sb0 _ | exact sb1 _ | (rw [List.append_nil]; exact sb0 _) | exact sb2 _ _ | exact sb3 _ _ _ | apply sb4 | apply sb5 | apply sb6)), trivial, ⟨rfl, rfl, rfl, rfl, rfl, trivial⟩, rfl⟩
 replace hg : ¬ ((_ : Int) < _) := hg
 refine RL.nil ?_
 refine X.cond_f rfl ?_
 refine X.exit rfl ?_
 refine X.seq ?_
 refine X.region rfl ?_
 refine RL.fn0 rfl rfl rfl en16 (fun w hw => (f_awake w)) rfl ?_
 rintro _ _ rfl
 refine RL.drop rfl (List.sublist_append_right _ _) ?_
 refine RL.assign rfl ?_
 refine RL.nil ?_
 refine X.ret ?_
 exact ret1 rfl rfl
end Go.Proofs.Ytnebpklmbefmfaa

/- The law: whatever is played. -/
import Derived.Test.YtnebpklmbefmfaaS1
import Derived.Test.YtnebpklmbefmfaaPlays
set_option linter.unusedVariables false
set_option linter.unusedSimpArgs false
namespace Go.Proofs.Ytnebpklmbefmfaa
open Go.RowKit
attribute [local irreducible] X RL W Ctr
set_option maxHeartbeats 1000000 in
set_option maxRecDepth 10000 in
theorem w_plays (n d0 : Int) (l : List Ac) (A0 : Option Addr) (c0 : Nat) (w : World) (hrd : Rd w A0 (ecells Ac.cells l)) :
    Ctr Try.prog 5 [.int .i64 n, .int .i64 d0, .slice A0 l.length c0] w [] fun v _ => v = .bool true := by
 obtain ⟨bb, oo, hA0, hc⟩ := hrd
 have hA : 0 < l.length → A0 = some ⟨bb, oo, none⟩ := fun h => hA0 (by rw [ecells_len Ac.len]; omega)
 obtain ⟨p, ep, hp4⟩ := pick_nat n (n := 4) (by decide)
 refine Ctr.intro0 (n := 163) Try.func5 rfl Try.ntmps5 (Nat.le_of_ble_eq_true rfl) ?_
 refine X.seq ?_
 refine X.region rfl ?_
 refine RL.assign rfl ?_
 refine RL.nil ?_
 refine X.seq ?_
 refine X.region rfl ?_
 refine RL.assign rfl ?_
 refine RL.nil ?_
 refine X.seq ?_
 refine X.seq ?_
 refine X.region rfl ?_
 refine RL.assign rfl ?_
 refine RL.nil ?_
 refine X.block ?_
 refine X.loop (γ := Nat) (fun g ρ L => ∃ A7 : Option Addr, ∃ c7 : Nat, ∃ vs : List Value, ∃ Lv : List Ent, ∃ Ls : List Ent, (g ≤ 1 + p) ∧ (Row 30 1 (.slice A7 g c7) vs Lv) ∧ (ModsO (ones g) vs Ls) ∧ Has ρ [(0, .int .i64 n), (1, .int .i64 d0), (2, .slice A0 l.length c0), (7, .slice A7 g c7), (8, .int .i64 g)] ∧ L = Lv ++ Ls) (fun g => 1 + p - g) (0) ⟨_, (by repeat (first | exact sb0 _ | exact sb1 _ | (rw [List.append_nil]; exact sb0 _) | exact sb2 _ _ | exact sb3 _ _ _ | apply sb4 | apply sb5 | apply sb6)), none, 0, [], [], [], Nat.zero_le _, Row.nil, ModsO.nil, ⟨rfl, rfl, rfl, rfl, rfl, trivial⟩, rfl⟩ ?_
 rintro g _ _ ⟨A7, c7, vs, Lv, Ls, hg0, hrv, hmo, hρ, rfl⟩
 obtain ⟨base, rfl⟩ := hρ.base
 clear hρ
 refine X.seq ?_
 refine X.seq ?_
 refine X.region rfl ?_
 refine RL.move rfl ?_
 refine RL.move rfl ?_
 refine RL.fn0 rfl rfl rfl en9 (fun w hw => ((f_pick (n) 4 w (by decide) (by decide)).mono fun v L h => (by rw [h]; exact congrArg (Value.int .i64) ep : v = .int .i64 ((p : Nat) : Int)))) rfl ?_
 rintro _ _ rfl
 refine RL.drop rfl (List.sublist_append_right _ _) ?_
 refine RL.add rfl rfl rfl (by omega) ?_
 refine RL.cmp_s rfl rfl rfl rfl (fun hg => ?_) (fun hg => ?_)
 ·replace hg : (_ : Int) < _ := hg
  have hvl : vs.length = g := hmo.len.trans (ones_len g)
  refine RL.nil ?_
  refine X.cond_t rfl ?_
  refine X.skip ?_
  refine X.seq ?_
  refine X.block ?_
  refine X.region rfl ?_
  refine RL.move rfl ?_
  refine RL.move rfl ?_
  refine RL.convE (b := (g : Int)) rfl Try.underlying3 Try.underlying5 rfl (u8_small (by omega)) ?_
  refine RL.fn0 rfl rfl rfl en11 (fun w hw => (f_one (g : Int) w)) rfl ?_
  rintro _ _ ⟨A9, n9, rfl, L9, hm9, hs9⟩
  refine RL.drop (L' := L9 ++ (Lv ++ Ls)) rfl (hs9.append (List.Sublist.refl _)) ?_
  refine RL.bs1A (l := [.slice A9 (oneM (g : Int)).length n9]) rfl rfl sl32 zt30 rfl rfl (by decide) ?_
  intro bx hbx
  refine RL.appB (Lr := Lv) (Lz := (bx, cel 30 [.slice A9 (oneM (g : Int)).length n9]) :: (L9 ++ Ls)) (xs := vs) (ys := [.slice A9 (oneM (g : Int)).length n9]) (N := g + 1) rfl rfl sl32 el_md (by decide) (by decide) Try.underlying32 rfl hrv rfl (by classical exact List.perm_iff_count.2 (fun z => by simp only [List.count_append, List.count_cons, List.count_nil, List.cons_append, List.nil_append, List.set_cons_zero, List.set_cons_succ] <;> omega)) List.mem_cons_self rfl (by simp [Value.oneCell']) (by omega) rfl ?_
  intro A3 cp3 Lr3 hr3
  refine RL.perm (L' := (Lr3 ++ (Ls ++ L9)) ++ [(bx, cel 30 [.slice A9 (oneM (g : Int)).length n9])]) rfl (by classical exact List.perm_iff_count.2 (fun z => by simp only [List.count_append, List.count_cons, List.count_nil, List.cons_append, List.nil_append, List.set_cons_zero, List.set_cons_succ] <;> omega)) ?_
  refine RL.assign rfl ?_
  refine RL.nil ?_
  refine X.blk ?_
  refine X.region rfl ?_
  refine RL.move rfl ?_
  refine RL.add rfl rfl rfl (by omega) ?_
  refine RL.assign rfl ?_
  refine RL.nil ?_
  refine X.hyp ⟨rfl, g + 1, by omega, _, (List.sublist_append_left _ _), A3, cp3, vs ++ [.slice A9 (oneM (g : Int)).length n9], Lr3, Ls ++ L9, by omega, hr3, by rw [ones_succ]; exact ModsO.snoc hmo hm9, ⟨rfl, rfl, rfl, rfl, rfl, trivial⟩, rfl⟩
 replace hg : ¬ ((_ : Int) < _) := hg
 obtain rfl : g = 1 + p := by omega
 refine RL.nil ?_
 refine X.cond_f rfl ?_
 refine X.exit rfl ?_
 refine X.seq ?_
 refine X.region rfl ?_
 refine RL.move rfl ?_
 obtain ⟨d, ed, hd6⟩ := pick_nat d0 (n := 6) (by decide)
 refine RL.fn0 rfl rfl rfl en9 (fun w hw => ((f_pick (d0) 6 w (by decide) (by decide)).mono fun v L h => (by rw [h]; exact congrArg (Value.int .i64) ed : v = .int .i64 ((d : Nat) : Int)))) rfl ?_
 rintro _ _ rfl
 refine RL.drop rfl (List.sublist_append_right _ _) ?_
 refine RL.assign rfl ?_
 refine RL.nil ?_
 refine X.seq ?_
 refine X.region rfl ?_
 refine RL.move rfl ?_
 refine RL.move rfl ?_
 have hN := ones_new p hp4 d hd6
 have hol := ones_len (1 + p)
 have hvl : vs.length = 1 + p := hmo.len.trans hol
 refine RL.fn (Lp := []) (Lr := Lv ++ Ls) rfl rfl rfl en10 (List.Perm.refl _) (fun w1 hw1 => by
   have hw2 : St w [] w1 (Lv ++ Ls) := hw1
   have := f_new (ones (1 + p)) (ones_sz _) A7 c7 ((d : Nat) : Int) (by omega)  w1 (hmo.rd hw2 hrv (fun p hp => List.mem_append_right _ hp) (fun p hp => List.mem_append_left _ hp)) (ones_b (by omega))
   rw [hol] at this
   exact this) rfl ?_
 rintro _ Lz (⟨hne, _⟩ | ⟨_, rb, A, cp, Lr, xs, Lst, rfl, hrow, hst, hsub⟩)
 · exact absurd hN hne
 have hxl : xs.length = 1 + p := hst.len.trans hol
 have hx5 : xs.length ≤ 1000 := by omega
 refine RL.drop rfl (((List.sublist_append_left _ _).trans hsub).append (List.Sublist.refl (Lv ++ Ls))) ?_
 refine RL.move rfl ?_
 refine RL.extract rfl rfl rfl ?_
 refine RL.extract rfl rfl rfl ?_
 refine RL.assign rfl ?_
 refine RL.assign rfl ?_
 refine RL.nil ?_
 refine X.seq ?_
 refine X.region rfl ?_
 refine RL.move rfl ?_
 refine RL.move rfl ?_
 refine RL.fn (Lp := []) (Lr := RegG rb A cp Lr (((d : Nat) : Int)) xs ((List.replicate (1 + p) mv0)) ++ (Lv ++ Ls)) rfl rfl rfl en19 (List.Perm.refl _) (fun w1 hw1 => by
   have hw2 : St w [] w1 (RegG rb A cp Lr (((d : Nat) : Int)) xs ((List.replicate (1 + p) mv0)) ++ (Lv ++ Ls)) := hw1
   have := f_xnew (ones (1 + p)) (ones_sz _) A7 c7 ((d : Nat) : Int) (by omega) vs w1 (row_rd hrv hw2 (fun p hp => List.mem_append_right _ (List.mem_append_left _ hp))) (hmo.reads hw2 (fun p hp => List.mem_append_right _ (List.mem_append_right _ hp)))
   rw [hol] at this
   exact this) rfl ?_
 rintro _ Lz (⟨hne, _⟩ | ⟨_, xb, cb, cp2, junk, rfl, hsub2⟩)
 · exact absurd hN hne
 
 refine RL.drop (L' := RefG xb cb cp2 junk ((d : Nat) : Int) vs ((List.replicate (1 + p) mv0)) (1 + p) ++ RegG rb A cp Lr (((d : Nat) : Int)) xs ((List.replicate (1 + p) mv0))) rfl (hsub2.append (List.sublist_append_left _ _)) ?_
 refine RL.perm (L' := RegG rb A cp Lr (((d : Nat) : Int)) xs ((List.replicate (1 + p) mv0)) ++ (RefG xb cb cp2 junk ((d : Nat) : Int) vs ((List.replicate (1 + p) mv0)) (1 + p))) rfl List.perm_append_comm ?_
 refine RL.move rfl ?_
 refine RL.extract rfl rfl rfl ?_
 refine RL.extract rfl rfl rfl ?_
 refine RL.assign rfl ?_
 refine RL.assign rfl ?_
 refine RL.nil ?_
 refine X.seq ?_
 refine X.seq ?_
 refine X.region rfl ?_
 refine RL.move rfl ?_
 refine RL.cmp_f rfl rfl rfl rfl (by show ¬ ((_ : Int) ≠ _); exact fun h => h rfl) ?_
 refine RL.nil ?_
 refine X.cond_f rfl ?_
 refine X.skip ?_
 refine X.seq ?_
 refine X.seq ?_
 refine X.region rfl ?_
 refine RL.assign rfl ?_
 refine RL.nil ?_
 refine X.block ?_
 refine X.loop (γ := Nat) (fun g ρ L => ∃ ss : List Mv, (g ≤ 200) ∧ (ss.length = 1 + p) ∧ Has ρ [(2, .slice A0 l.length c0), (7, .slice A7 (1 + p) c7), (9, .pointer (some ⟨rb, 0, none⟩)), (11, .pointer (some ⟨xb, 0, none⟩)), (13, .int .i64 g)] ∧ L = RegG rb A cp Lr (((d : Nat) : Int)) xs (ss) ++ (RefG xb cb cp2 junk ((d : Nat) : Int) vs (ss) (1 + p))) (fun g => 200 - g) (0) ⟨_, (by repeat (first | exact sb0 _ | exact sb1 _ | (rw [List.append_nil]; exact sb0 _) | exact sb2 _ _ | exact sb3 _ _ _ | apply sb4 | apply sb5 | apply sb6)), (List.replicate (1 + p) mv0), Nat.zero_le _, List.length_replicate, ⟨rfl, rfl, rfl, rfl, rfl, trivial⟩, rfl⟩ ?_
 rintro g _ _ ⟨ss, hg0, hss, hρ, rfl⟩
 obtain ⟨base, rfl⟩ := hρ.base
 clear hρ
 refine X.seq ?_
 refine X.seq ?_
 refine X.cut (fun ρ ds L => ds = [] ∧ Has ρ [(2, .slice A0 l.length c0), (7, .slice A7 (1 + p) c7), (9, .pointer (some ⟨rb, 0, none⟩)), (11, .pointer (some ⟨xb, 0, none⟩)), (13, .int .i64 g), (55, .bool (decide (g < l.length ∧ g < 200)))] ∧ L = RegG rb A cp Lr (((d : Nat) : Int)) xs (ss) ++ (RefG xb cb cp2 junk ((d : Nat) : Int) vs (ss) (1 + p))) ?_ ?_
 ·refine X.region rfl ?_
  refine RL.move rfl ?_
  refine RL.move rfl ?_
  refine RL.len rfl sl22 rfl ?_
  refine RL.cmp_s rfl rfl rfl rfl (fun hl => ?_) (fun hl => ?_)
  ·replace hl : (_ : Int) < _ := hl
   refine RL.move rfl ?_
   refine RL.move rfl ?_
   refine RL.cmp_s rfl rfl rfl rfl (fun h200 => ?_) (fun h200 => ?_)
   ·replace h200 : (_ : Int) < _ := h200
    refine RL.pick_t rfl rfl ?_
    refine RL.nil ?_
    refine X.hyp ⟨rfl, ⟨rfl, rfl, rfl, rfl, rfl, ?_, trivial⟩, rfl⟩
    exact congrArg Value.bool (decide_eq_true (by omega)).symm
   replace h200 : ¬ ((_ : Int) < _) := h200
   refine RL.pick_t rfl rfl ?_
   refine RL.nil ?_
   refine X.hyp ⟨rfl, ⟨rfl, rfl, rfl, rfl, rfl, ?_, trivial⟩, rfl⟩
   exact congrArg Value.bool (decide_eq_false (by omega)).symm
  replace hl : ¬ ((_ : Int) < _) := hl
  refine RL.move rfl ?_
  refine RL.skip rfl ?_
  refine RL.skip rfl ?_
  refine RL.pick_f rfl rfl ?_
  refine RL.nil ?_
  refine X.hyp ⟨rfl, ⟨rfl, rfl, rfl, rfl, rfl, ?_, trivial⟩, rfl⟩
  exact congrArg Value.bool (decide_eq_false (by omega)).symm
 rintro _ _ _ ⟨rfl, hρ, rfl⟩
 obtain ⟨base, rfl⟩ := hρ.base
 clear hρ
 refine X.cond_s rfl (fun hl => ?_) (fun hl => ?_)
 ·obtain ⟨a, ha⟩ : ∃ a, l[g]? = some a := ⟨_, List.getElem?_eq_getElem hl.1⟩
  obtain ⟨q, eq, hq7⟩ := pick_nat a.kind (n := 7) (by decide)
  refine X.skip ?_
  refine X.seq ?_
  refine X.block ?_
  refine X.seq ?_
  refine X.region rfl ?_
  refine RL.move rfl ?_
  refine RL.move rfl ?_
  refine RL.indexAddr rfl sl22 rfl rfl (hA (by omega)) rfl (by omega) ?_
  refine RL.loadIA rfl ag36 rfl (elem_at Ac.len hc ha) (by simp) (Ac.len _) ?_
  refine RL.alloc rfl rfl zt36 ?_
  intro b14 hb14
  dsimp only at hb14
  refine RL.stA rfl rfl ag36.size rfl rfl (Ac.len a) rfl (by simp [Ac.cells, Value.oneCell']) ?_
  refine RL.nil ?_
  refine X.seq ?_
  refine X.seq ?_
  refine X.region rfl ?_
  refine RL.fieldAddr rfl fd36_0 rfl ?_
  refine RL.loadO rfl sc3 rfl rfl ?_
  refine RL.fn0 rfl rfl rfl en9 (fun w hw => ((f_pick (a.kind) 7 w (by decide) (by decide)).mono fun v L h => (by rw [h]; exact congrArg (Value.int .i64) eq : v = .int .i64 ((q : Nat) : Int)))) rfl ?_
  rintro _ _ rfl
  refine RL.drop rfl (List.sublist_append_right _ _) ?_
  refine RL.nil ?_
  refine X.cut (fun ρ ds L => ∃ ss2, ss2.length = 1 + p ∧ ds = [] ∧ Has ρ [(2, .slice A0 l.length c0), (7, .slice A7 (1 + p) c7), (9, .pointer (some ⟨rb, 0, none⟩)), (11, .pointer (some ⟨xb, 0, none⟩)), (13, .int .i64 g)] ∧ L = RegG rb A cp Lr (((d : Nat) : Int)) xs (ss2) ++ (RefG xb cb cp2 junk ((d : Nat) : Int) vs (ss2) (1 + p) ++ [(b14, cel 36 a.cells)])) ?_ ?_
  ·refine X.block ?_
   refine X.seq ?_
   refine X.region rfl ?_
   refine RL.cmp_s rfl rfl rfl rfl (fun h5 => ?_) (fun h5 => ?_)
   ·replace h5 : (_ : Int) = _ := h5
    refine RL.assign rfl ?_
    refine RL.nil ?_
    refine X.cond_t rfl ?_
    refine X.seq ?_
    refine X.region rfl ?_
    refine RL.move rfl ?_
    refine RL.fn (Lp := RegG rb A cp Lr (((d : Nat) : Int)) xs (ss)) (Lr := (RefG xb cb cp2 junk ((d : Nat) : Int) vs (ss) (1 + p) ++ [(b14, cel 36 a.cells)])) rfl rfl rfl en13 (by classical exact List.perm_iff_count.2 (fun z => by simp only [List.count_append, List.count_cons, List.count_nil, List.cons_append, List.nil_append, List.set_cons_zero, List.set_cons_succ] <;> omega)) (fun w1 hw1 => f_tick rb cp A Lr (((d : Nat) : Int)) xs (ss) (by rw [hxl]; exact hss) hx5 hrow w1 (fun p hp => hw1.own p (List.mem_append_left _ hp)) (hw1.nodup.sublist ((List.sublist_append_left _ _).map _))) rfl ?_
    rintro _ Lz ⟨rfl, rfl⟩
    skip
    refine RL.nil ?_
    refine X.region rfl ?_
    refine RL.move rfl ?_
    refine RL.fn (Lp := RefG xb cb cp2 junk ((d : Nat) : Int) vs (ss) (1 + p)) (Lr := (RegG rb A cp Lr (((d : Nat) : Int)) xs (ss.map tickP) ++ [(b14, cel 36 a.cells)])) rfl rfl rfl en20 (by classical exact List.perm_iff_count.2 (fun z => by simp only [List.count_append, List.count_cons, List.count_nil, List.cons_append, List.nil_append, List.set_cons_zero, List.set_cons_succ] <;> omega)) (fun w1 hw1 => f_xtick  xb cb cp2 (1 + p) junk ((d : Nat) : Int) vs ss (by omega) (by omega) hss.symm w1 (fun p hp => hw1.own p (List.mem_append_left _ hp)) (hw1.nodup.sublist ((List.sublist_append_left _ _).map _))) rfl ?_
    rintro _ Lz ⟨rfl, rfl⟩
    refine RL.perm (L' := RegG rb A cp Lr (((d : Nat) : Int)) xs (ss.map tickP) ++ (RefG xb cb cp2 junk ((d : Nat) : Int) vs (ss.map tickP) (1 + p) ++ [(b14, cel 36 a.cells)])) rfl (by classical exact List.perm_iff_count.2 (fun z => by simp only [List.count_append, List.count_cons, List.count_nil, List.cons_append, List.nil_append, List.set_cons_zero, List.set_cons_succ] <;> omega)) ?_
    refine RL.nil ?_
    refine X.blk ?_
    exact X.hyp ⟨ss.map tickP, by rw [List.length_map]; exact hss, rfl, ⟨rfl, rfl, rfl, rfl, rfl, trivial⟩, rfl⟩
   replace h5 : ¬ ((_ : Int) = _) := h5
   refine RL.assign rfl ?_
   refine RL.nil ?_
   refine X.cond_f rfl ?_
   refine X.seq ?_
   refine X.region rfl ?_
   refine RL.cmp_s rfl rfl rfl rfl (fun h6 => ?_) (fun h6 => ?_)
   ·replace h6 : (_ : Int) = _ := h6
    refine RL.assign rfl ?_
    refine RL.nil ?_
    refine X.cond_t rfl ?_
    refine X.seq ?_
    refine X.region rfl ?_
    refine RL.move rfl ?_
    refine RL.fn (Lp := RegG rb A cp Lr (((d : Nat) : Int)) xs (ss)) (Lr := (RefG xb cb cp2 junk ((d : Nat) : Int) vs (ss) (1 + p) ++ [(b14, cel 36 a.cells)])) rfl rfl rfl en14 (by classical exact List.perm_iff_count.2 (fun z => by simp only [List.count_append, List.count_cons, List.count_nil, List.cons_append, List.nil_append, List.set_cons_zero, List.set_cons_succ] <;> omega)) (fun w1 hw1 => f_free rb cp A Lr (((d : Nat) : Int)) xs (ss) (by rw [hxl]; exact hss) hx5 hrow w1 (fun p hp => hw1.own p (List.mem_append_left _ hp)) (hw1.nodup.sublist ((List.sublist_append_left _ _).map _))) rfl ?_
    rintro _ Lz ⟨Ao, co, Lo, rfl, hro, rfl⟩
    rw [hxl] at hro ⊢
    refine RL.move rfl ?_
    refine RL.fn (Lp := RefG xb cb cp2 junk ((d : Nat) : Int) vs (ss) (1 + p)) (Lr := (RegG rb A cp Lr (((d : Nat) : Int)) xs (ss.map (freeP ((d : Nat) : Int))) ++ (Lo ++ [(b14, cel 36 a.cells)]))) rfl rfl rfl en21 (by classical exact List.perm_iff_count.2 (fun z => by simp only [List.count_append, List.count_cons, List.count_nil, List.cons_append, List.nil_append, List.set_cons_zero, List.set_cons_succ] <;> omega)) (fun w1 hw1 => f_xfree  xb cb cp2 (1 + p) junk ((d : Nat) : Int) vs ss (by omega) (by omega) hss.symm w1 (fun p hp => hw1.own p (List.mem_append_left _ hp)) (hw1.nodup.sublist ((List.sublist_append_left _ _).map _))) rfl ?_
    rintro _ Lz ⟨Bo, do_, Lo2, rfl, hro2, rfl⟩
    rw [hss] at hro2 ⊢
    refine RL.perm (L' := RegG rb A cp Lr (((d : Nat) : Int)) xs (ss.map (freeP ((d : Nat) : Int))) ++ (RefG xb cb cp2 junk ((d : Nat) : Int) vs (ss.map (freeP ((d : Nat) : Int))) (1 + p) ++ [(b14, cel 36 a.cells)]) ++ (Lo ++ Lo2)) rfl (by classical exact List.perm_iff_count.2 (fun z => by simp only [List.count_append, List.count_cons, List.count_nil, List.cons_append, List.nil_append, List.set_cons_zero, List.set_cons_succ] <;> omega)) ?_
    have hfl := freedP_le ((d : Nat) : Int) ss (1 + p)
    refine RL.fn0 rfl rfl rfl en17 (fun w hw => ((f_sameints (freedP ((d : Nat) : Int) ss (1 + p)) (freedP ((d : Nat) : Int) ss (1 + p)) Ao Bo co do_ w (by omega) (by omega) (row_rd hro hw (fun p hp => by simp only [List.mem_append]; exact .inr (.inl hp))) (row_rd hro2 hw (fun p hp => by simp only [List.mem_append]; exact .inr (.inr hp)))).mono fun v L h => (by rw [h, decide_eq_true rfl] : v = .bool true))) rfl ?_
    rintro _ _ rfl
    refine RL.drop (L' := RegG rb A cp Lr (((d : Nat) : Int)) xs (ss.map (freeP ((d : Nat) : Int))) ++ (RefG xb cb cp2 junk ((d : Nat) : Int) vs (ss.map (freeP ((d : Nat) : Int))) (1 + p) ++ [(b14, cel 36 a.cells)])) rfl ((List.sublist_append_left _ _).trans (List.sublist_append_right _ _)) ?_
    refine RL.not rfl rfl ?_
    refine RL.nil ?_
    refine X.cond_f rfl ?_
    refine X.skip ?_
    refine X.blk ?_
    exact X.hyp ⟨ss.map (freeP ((d : Nat) : Int)), by rw [List.length_map]; exact hss, rfl, ⟨rfl, rfl, rfl, rfl, rfl, trivial⟩, rfl⟩
   replace h6 : ¬ ((_ : Int) = _) := h6
   refine RL.assign rfl ?_
   refine RL.nil ?_
   refine X.cond_f rfl ?_
   refine X.seq ?_
   refine X.set [.val (.pointer (some ⟨rb, 0, none⟩)), .val (.pointer (some ⟨b14, 0 + 1, none⟩)), .val (.int .i64 a.mo), .val (.pointer (some ⟨b14, 0 + 2, none⟩)), .val (.int .i64 a.what), .val (.pointer (some ⟨b14, 0 + 3, none⟩)), .val (.bool a.up), .any, .val (.pointer (some ⟨xb, 0, none⟩)), .val (.pointer (some ⟨b14, 0 + 1, none⟩)), .val (.int .i64 a.mo), .val (.pointer (some ⟨b14, 0 + 2, none⟩)), .val (.int .i64 a.what), .val (.pointer (some ⟨b14, 0 + 3, none⟩)), .val (.bool a.up), .any, .val (.bool false)] [[], [], [1], [], [3], [], [5], [0, 1, 2, 3, 4, 5, 6], [], [], [9], [], [11], [], [13], [0, 1, 2, 3, 4, 5, 6, 7, 8, 9, 10, 11, 12, 13, 14], [0, 1, 2, 3, 4, 5, 6, 7, 8, 9, 10, 11, 12, 13, 14, 15]] (fun D ρ L => (D 7 = false ∧ D 15 = false ∧ True ∧ Has ρ [] ∧ L.Perm ((RegG rb A cp Lr (((d : Nat) : Int)) xs (ss)) ++ ((RefG xb cb cp2 junk ((d : Nat) : Int) vs (ss) (1 + p)) ++ ([(b14, cel 36 a.cells)])))) ∨ (D 7 = true ∧ D 15 = false ∧ True ∧ Has ρ [(72, .int .i64 (countP ss a.mo a.what a.up).1)] ∧ L.Perm ((RegG rb A cp Lr (((d : Nat) : Int)) xs ((countP ss a.mo a.what a.up).2)) ++ ((RefG xb cb cp2 junk ((d : Nat) : Int) vs (ss) (1 + p)) ++ ([(b14, cel 36 a.cells)])))) ∨ (D 7 = true ∧ D 15 = true ∧ True ∧ Has ρ [(72, .int .i64 (countP ss a.mo a.what a.up).1), (80, .int .i64 (countP ss a.mo a.what a.up).1)] ∧ L.Perm ((RegG rb A cp Lr (((d : Nat) : Int)) xs ((countP ss a.mo a.what a.up).2)) ++ ((RefG xb cb cp2 junk ((d : Nat) : Int) vs ((countP ss a.mo a.what a.up).2) (1 + p)) ++ ([(b14, cel 36 a.cells)]))))) rfl (by kernel_rfl) (by kernel_rfl) (by kernel_rfl) (by kernel_rfl) (fun D hD => .inl ⟨hD 7, hD 15, trivial, trivial, (pmm fun _ _ z => by simp only [pm1, pm2, pm3, pm4, pm5, pm6, List.cons_append, List.nil_append] <;> omega)⟩) ⟨?_, ?_, ?_, ?_, ?_, ?_, ?_, ?_, ?_, ?_, ?_, ?_, ?_, ?_, ?_, ?_, ?_, trivial⟩ ?_
   ·intro ρ L D hS
    rcases hS.sp with ⟨e7, e15, -, hρ, hL⟩ | ⟨e7, e15, -, hρ, hL⟩ | ⟨e7, e15, -, hρ, hL⟩
    ·have u9 : ρ 9 = .pointer (some ⟨rb, 0, none⟩) := hS.fix 9 (by decide)
     clear hS hρ
     obtain ⟨base, rfl⟩ := Has.base (ρ := ρ) (l := [(9, .pointer (some ⟨rb, 0, none⟩))]) ⟨u9, trivial⟩
     clear u9
     refine RL.perm rfl hL.symm ?_
     clear hL
     refine RL.move rfl ?_
     refine RL.nil ?_
     exact ⟨rfl, ⟨_, rfl, rfl⟩, .inl ⟨e7, e15, trivial, trivial, List.Perm.refl _⟩⟩
    ·exact hS.hi 7 rfl (by kernel_rfl) e7
    exact hS.hi 7 rfl (by kernel_rfl) e7
   ·intro ρ L D hS
    rcases hS.sp with ⟨e7, e15, -, hρ, hL⟩ | ⟨e7, e15, -, hρ, hL⟩ | ⟨e7, e15, -, hρ, hL⟩
    ·have u14 : ρ 14 = .pointer (some ⟨b14, 0, none⟩) := hS.fix 14 (by decide)
     clear hS hρ
     obtain ⟨base, rfl⟩ := Has.base (ρ := ρ) (l := [(14, .pointer (some ⟨b14, 0, none⟩))]) ⟨u14, trivial⟩
     clear u14
     refine RL.perm rfl hL.symm ?_
     clear hL
     refine RL.fieldAddr rfl fd36_1 rfl ?_
     refine RL.nil ?_
     exact ⟨rfl, ⟨_, rfl, rfl⟩, .inl ⟨e7, e15, trivial, trivial, List.Perm.refl _⟩⟩
    ·exact hS.hi 7 rfl (by kernel_rfl) e7
    exact hS.hi 7 rfl (by kernel_rfl) e7
   ·intro ρ L D hS
    rcases hS.sp with ⟨e7, e15, -, hρ, hL⟩ | ⟨e7, e15, -, hρ, hL⟩ | ⟨e7, e15, -, hρ, hL⟩
    ·have u66 : ρ 66 = .pointer (some ⟨b14, 0 + 1, none⟩) := hS.dep ⟨1, Ground.data⟩ (by simp) rfl _ _ rfl rfl
     clear hS hρ
     obtain ⟨base, rfl⟩ := Has.base (ρ := ρ) (l := [(66, .pointer (some ⟨b14, 0 + 1, none⟩))]) ⟨u66, trivial⟩
     clear u66
     refine RL.perm rfl hL.symm ?_
     clear hL
     refine RL.loadO rfl sc3 rfl rfl ?_
     refine RL.nil ?_
     exact ⟨rfl, ⟨_, rfl, rfl⟩, .inl ⟨e7, e15, trivial, trivial, List.Perm.refl _⟩⟩
    ·exact hS.hi 7 rfl (by kernel_rfl) e7
    exact hS.hi 7 rfl (by kernel_rfl) e7
   ·intro ρ L D hS
    rcases hS.sp with ⟨e7, e15, -, hρ, hL⟩ | ⟨e7, e15, -, hρ, hL⟩ | ⟨e7, e15, -, hρ, hL⟩
    ·have u14 : ρ 14 = .pointer (some ⟨b14, 0, none⟩) := hS.fix 14 (by decide)
     clear hS hρ
     obtain ⟨base, rfl⟩ := Has.base (ρ := ρ) (l := [(14, .pointer (some ⟨b14, 0, none⟩))]) ⟨u14, trivial⟩
     clear u14
     refine RL.perm rfl hL.symm ?_
     clear hL
     refine RL.fieldAddr rfl fd36_2 rfl ?_
     refine RL.nil ?_
     exact ⟨rfl, ⟨_, rfl, rfl⟩, .inl ⟨e7, e15, trivial, trivial, List.Perm.refl _⟩⟩
    ·exact hS.hi 7 rfl (by kernel_rfl) e7
    exact hS.hi 7 rfl (by kernel_rfl) e7
   ·intro ρ L D hS
    rcases hS.sp with ⟨e7, e15, -, hρ, hL⟩ | ⟨e7, e15, -, hρ, hL⟩ | ⟨e7, e15, -, hρ, hL⟩
    ·have u68 : ρ 68 = .pointer (some ⟨b14, 0 + 2, none⟩) := hS.dep ⟨3, Ground.data⟩ (by simp) rfl _ _ rfl rfl
     clear hS hρ
     obtain ⟨base, rfl⟩ := Has.base (ρ := ρ) (l := [(68, .pointer (some ⟨b14, 0 + 2, none⟩))]) ⟨u68, trivial⟩
     clear u68
     refine RL.perm rfl hL.symm ?_
     clear hL
     refine RL.loadO rfl sc3 rfl rfl ?_
     refine RL.nil ?_
     exact ⟨rfl, ⟨_, rfl, rfl⟩, .inl ⟨e7, e15, trivial, trivial, List.Perm.refl _⟩⟩
    ·exact hS.hi 7 rfl (by kernel_rfl) e7
    exact hS.hi 7 rfl (by kernel_rfl) e7
   ·intro ρ L D hS
    rcases hS.sp with ⟨e7, e15, -, hρ, hL⟩ | ⟨e7, e15, -, hρ, hL⟩ | ⟨e7, e15, -, hρ, hL⟩
    ·have u14 : ρ 14 = .pointer (some ⟨b14, 0, none⟩) := hS.fix 14 (by decide)
     clear hS hρ
     obtain ⟨base, rfl⟩ := Has.base (ρ := ρ) (l := [(14, .pointer (some ⟨b14, 0, none⟩))]) ⟨u14, trivial⟩
     clear u14
     refine RL.perm rfl hL.symm ?_
     clear hL
     refine RL.fieldAddr rfl fd36_3 rfl ?_
     refine RL.nil ?_
     exact ⟨rfl, ⟨_, rfl, rfl⟩, .inl ⟨e7, e15, trivial, trivial, List.Perm.refl _⟩⟩
    ·exact hS.hi 7 rfl (by kernel_rfl) e7
    exact hS.hi 7 rfl (by kernel_rfl) e7
   ·intro ρ L D hS
    rcases hS.sp with ⟨e7, e15, -, hρ, hL⟩ | ⟨e7, e15, -, hρ, hL⟩ | ⟨e7, e15, -, hρ, hL⟩
    ·have u70 : ρ 70 = .pointer (some ⟨b14, 0 + 3, none⟩) := hS.dep ⟨5, Ground.data⟩ (by simp) rfl _ _ rfl rfl
     clear hS hρ
     obtain ⟨base, rfl⟩ := Has.base (ρ := ρ) (l := [(70, .pointer (some ⟨b14, 0 + 3, none⟩))]) ⟨u70, trivial⟩
     clear u70
     refine RL.perm rfl hL.symm ?_
     clear hL
     refine RL.loadO rfl sc4 rfl rfl ?_
     refine RL.nil ?_
     exact ⟨rfl, ⟨_, rfl, rfl⟩, .inl ⟨e7, e15, trivial, trivial, List.Perm.refl _⟩⟩
    ·exact hS.hi 7 rfl (by kernel_rfl) e7
    exact hS.hi 7 rfl (by kernel_rfl) e7
   ·intro ρ L D hS
    rcases hS.sp with ⟨e7, e15, -, hρ, hL⟩ | ⟨e7, e15, -, hρ, hL⟩ | ⟨e7, e15, -, hρ, hL⟩
    ·have u65 : ρ 65 = .pointer (some ⟨rb, 0, none⟩) := hS.dep ⟨0, Ground.data⟩ (by simp) rfl _ _ rfl rfl
     have u67 : ρ 67 = .int .i64 a.mo := hS.dep ⟨2, Ground.data⟩ (by simp) rfl _ _ rfl rfl
     have u69 : ρ 69 = .int .i64 a.what := hS.dep ⟨4, Ground.data⟩ (by simp) rfl _ _ rfl rfl
     have u71 : ρ 71 = .bool a.up := hS.dep ⟨6, Ground.data⟩ (by simp) rfl _ _ rfl rfl
     clear hS hρ
     obtain ⟨base, rfl⟩ := Has.base (ρ := ρ) (l := [(65, .pointer (some ⟨rb, 0, none⟩)), (67, .int .i64 a.mo), (69, .int .i64 a.what), (71, .bool a.up)]) ⟨u65, u67, u69, u71, trivial⟩
     clear u65 u67 u69 u71
     refine RL.perm rfl hL.symm ?_
     clear hL
     refine RL.fn (Lp := RegG rb A cp Lr (((d : Nat) : Int)) xs (ss)) (Lr := RefG xb cb cp2 junk ((d : Nat) : Int) vs (ss) (1 + p) ++ [(b14, cel 36 a.cells)]) rfl rfl rfl en12 (List.Perm.refl _) (fun w1 hw1 => f_count a.mo a.what a.up rb cp A Lr (((d : Nat) : Int)) xs (ss) (by rw [hxl]; exact hss) hx5 hrow w1 (fun p hp => hw1.own p (List.mem_append_left _ hp)) (hw1.nodup.sublist ((List.sublist_append_left _ _).map _))) rfl ?_
     rintro _ Lz ⟨rfl, rfl⟩
     refine RL.nil ?_
     exact ⟨rfl, ⟨_, rfl, trivial⟩, .inr (.inl ⟨rfl, e15, trivial, ⟨rfl, trivial⟩, (pmm fun _ _ z => by simp only [pm1, pm2, pm3, pm4, pm5, pm6, List.cons_append, List.nil_append] <;> omega)⟩)⟩
    ·exact hS.me e7
    exact hS.hi 15 rfl (by kernel_rfl) e15
   ·intro ρ L D hS
    rcases hS.sp with ⟨e7, e15, -, hρ, hL⟩ | ⟨e7, e15, -, hρ, hL⟩ | ⟨e7, e15, -, hρ, hL⟩
    ·have u11 : ρ 11 = .pointer (some ⟨xb, 0, none⟩) := hS.fix 11 (by decide)
     clear hS hρ
     obtain ⟨base, rfl⟩ := Has.base (ρ := ρ) (l := [(11, .pointer (some ⟨xb, 0, none⟩))]) ⟨u11, trivial⟩
     clear u11
     refine RL.perm rfl hL.symm ?_
     clear hL
     refine RL.move rfl ?_
     refine RL.nil ?_
     exact ⟨rfl, ⟨_, rfl, rfl⟩, .inl ⟨e7, e15, trivial, trivial, List.Perm.refl _⟩⟩
    ·have u11 : ρ 11 = .pointer (some ⟨xb, 0, none⟩) := hS.fix 11 (by decide)
     have u72 : ρ 72 = .int .i64 (countP ss a.mo a.what a.up).1 := hρ.1
     clear hS hρ
     obtain ⟨base, rfl⟩ := Has.base (ρ := ρ) (l := [(11, .pointer (some ⟨xb, 0, none⟩)), (72, .int .i64 (countP ss a.mo a.what a.up).1)]) ⟨u11, u72, trivial⟩
     clear u11 u72
     refine RL.perm rfl hL.symm ?_
     clear hL
     refine RL.move rfl ?_
     refine RL.nil ?_
     exact ⟨rfl, ⟨_, rfl, rfl⟩, .inr (.inl ⟨e7, e15, trivial, ⟨rfl, trivial⟩, List.Perm.refl _⟩)⟩
    exact hS.hi 15 rfl (by kernel_rfl) e15
   ·intro ρ L D hS
    rcases hS.sp with ⟨e7, e15, -, hρ, hL⟩ | ⟨e7, e15, -, hρ, hL⟩ | ⟨e7, e15, -, hρ, hL⟩
    ·have u14 : ρ 14 = .pointer (some ⟨b14, 0, none⟩) := hS.fix 14 (by decide)
     clear hS hρ
     obtain ⟨base, rfl⟩ := Has.base (ρ := ρ) (l := [(14, .pointer (some ⟨b14, 0, none⟩))]) ⟨u14, trivial⟩
     clear u14
     refine RL.perm rfl hL.symm ?_
     clear hL
     refine RL.fieldAddr rfl fd36_1 rfl ?_
     refine RL.nil ?_
     exact ⟨rfl, ⟨_, rfl, rfl⟩, .inl ⟨e7, e15, trivial, trivial, List.Perm.refl _⟩⟩
    ·have u14 : ρ 14 = .pointer (some ⟨b14, 0, none⟩) := hS.fix 14 (by decide)
     have u72 : ρ 72 = .int .i64 (countP ss a.mo a.what a.up).1 := hρ.1
     clear hS hρ
     obtain ⟨base, rfl⟩ := Has.base (ρ := ρ) (l := [(14, .pointer (some ⟨b14, 0, none⟩)), (72, .int .i64 (countP ss a.mo a.what a.up).1)]) ⟨u14, u72, trivial⟩
     clear u14 u72
     refine RL.perm rfl hL.symm ?_
     clear hL
     refine RL.fieldAddr rfl fd36_1 rfl ?_
     refine RL.nil ?_
     exact ⟨rfl, ⟨_, rfl, rfl⟩, .inr (.inl ⟨e7, e15, trivial, ⟨rfl, trivial⟩, List.Perm.refl _⟩)⟩
    exact hS.hi 15 rfl (by kernel_rfl) e15
   ·intro ρ L D hS
    rcases hS.sp with ⟨e7, e15, -, hρ, hL⟩ | ⟨e7, e15, -, hρ, hL⟩ | ⟨e7, e15, -, hρ, hL⟩
    ·have u74 : ρ 74 = .pointer (some ⟨b14, 0 + 1, none⟩) := hS.dep ⟨9, Ground.data⟩ (by simp) rfl _ _ rfl rfl
     clear hS hρ
     obtain ⟨base, rfl⟩ := Has.base (ρ := ρ) (l := [(74, .pointer (some ⟨b14, 0 + 1, none⟩))]) ⟨u74, trivial⟩
     clear u74
     refine RL.perm rfl hL.symm ?_
     clear hL
     refine RL.loadO rfl sc3 rfl rfl ?_
     refine RL.nil ?_
     exact ⟨rfl, ⟨_, rfl, rfl⟩, .inl ⟨e7, e15, trivial, trivial, List.Perm.refl _⟩⟩
    ·have u72 : ρ 72 = .int .i64 (countP ss a.mo a.what a.up).1 := hρ.1
     have u74 : ρ 74 = .pointer (some ⟨b14, 0 + 1, none⟩) := hS.dep ⟨9, Ground.data⟩ (by simp) rfl _ _ rfl rfl
     clear hS hρ
     obtain ⟨base, rfl⟩ := Has.base (ρ := ρ) (l := [(72, .int .i64 (countP ss a.mo a.what a.up).1), (74, .pointer (some ⟨b14, 0 + 1, none⟩))]) ⟨u72, u74, trivial⟩
     clear u72 u74
     refine RL.perm rfl hL.symm ?_
     clear hL
     refine RL.loadO rfl sc3 rfl rfl ?_
     refine RL.nil ?_
     exact ⟨rfl, ⟨_, rfl, rfl⟩, .inr (.inl ⟨e7, e15, trivial, ⟨rfl, trivial⟩, List.Perm.refl _⟩)⟩
    exact hS.hi 15 rfl (by kernel_rfl) e15
   ·intro ρ L D hS
    rcases hS.sp with ⟨e7, e15, -, hρ, hL⟩ | ⟨e7, e15, -, hρ, hL⟩ | ⟨e7, e15, -, hρ, hL⟩
    ·have u14 : ρ 14 = .pointer (some ⟨b14, 0, none⟩) := hS.fix 14 (by decide)
     clear hS hρ
     obtain ⟨base, rfl⟩ := Has.base (ρ := ρ) (l := [(14, .pointer (some ⟨b14, 0, none⟩))]) ⟨u14, trivial⟩
     clear u14
     refine RL.perm rfl hL.symm ?_
     clear hL
     refine RL.fieldAddr rfl fd36_2 rfl ?_
     refine RL.nil ?_
     exact ⟨rfl, ⟨_, rfl, rfl⟩, .inl ⟨e7, e15, trivial, trivial, List.Perm.refl _⟩⟩
    ·have u14 : ρ 14 = .pointer (some ⟨b14, 0, none⟩) := hS.fix 14 (by decide)
     have u72 : ρ 72 = .int .i64 (countP ss a.mo a.what a.up).1 := hρ.1
     clear hS hρ
     obtain ⟨base, rfl⟩ := Has.base (ρ := ρ) (l := [(14, .pointer (some ⟨b14, 0, none⟩)), (72, .int .i64 (countP ss a.mo a.what a.up).1)]) ⟨u14, u72, trivial⟩
     clear u14 u72
     refine RL.perm rfl hL.symm ?_
     clear hL
     refine RL.fieldAddr rfl fd36_2 rfl ?_
     refine RL.nil ?_
     exact ⟨rfl, ⟨_, rfl, rfl⟩, .inr (.inl ⟨e7, e15, trivial, ⟨rfl, trivial⟩, List.Perm.refl _⟩)⟩
    exact hS.hi 15 rfl (by kernel_rfl) e15
   ·intro ρ L D hS
    rcases hS.sp with ⟨e7, e15, -, hρ, hL⟩ | ⟨e7, e15, -, hρ, hL⟩ | ⟨e7, e15, -, hρ, hL⟩
    ·have u76 : ρ 76 = .pointer (some ⟨b14, 0 + 2, none⟩) := hS.dep ⟨11, Ground.data⟩ (by simp) rfl _ _ rfl rfl
     clear hS hρ
     obtain ⟨base, rfl⟩ := Has.base (ρ := ρ) (l := [(76, .pointer (some ⟨b14, 0 + 2, none⟩))]) ⟨u76, trivial⟩
     clear u76
     refine RL.perm rfl hL.symm ?_
     clear hL
     refine RL.loadO rfl sc3 rfl rfl ?_
     refine RL.nil ?_
     exact ⟨rfl, ⟨_, rfl, rfl⟩, .inl ⟨e7, e15, trivial, trivial, List.Perm.refl _⟩⟩
    ·have u72 : ρ 72 = .int .i64 (countP ss a.mo a.what a.up).1 := hρ.1
     have u76 : ρ 76 = .pointer (some ⟨b14, 0 + 2, none⟩) := hS.dep ⟨11, Ground.data⟩ (by simp) rfl _ _ rfl rfl
     clear hS hρ
     obtain ⟨base, rfl⟩ := Has.base (ρ := ρ) (l := [(72, .int .i64 (countP ss a.mo a.what a.up).1), (76, .pointer (some ⟨b14, 0 + 2, none⟩))]) ⟨u72, u76, trivial⟩
     clear u72 u76
     refine RL.perm rfl hL.symm ?_
     clear hL
     refine RL.loadO rfl sc3 rfl rfl ?_
     refine RL.nil ?_
     exact ⟨rfl, ⟨_, rfl, rfl⟩, .inr (.inl ⟨e7, e15, trivial, ⟨rfl, trivial⟩, List.Perm.refl _⟩)⟩
    exact hS.hi 15 rfl (by kernel_rfl) e15
   ·intro ρ L D hS
    rcases hS.sp with ⟨e7, e15, -, hρ, hL⟩ | ⟨e7, e15, -, hρ, hL⟩ | ⟨e7, e15, -, hρ, hL⟩
    ·have u14 : ρ 14 = .pointer (some ⟨b14, 0, none⟩) := hS.fix 14 (by decide)
     clear hS hρ
     obtain ⟨base, rfl⟩ := Has.base (ρ := ρ) (l := [(14, .pointer (some ⟨b14, 0, none⟩))]) ⟨u14, trivial⟩
     clear u14
     refine RL.perm rfl hL.symm ?_
     clear hL
     refine RL.fieldAddr rfl fd36_3 rfl ?_
     refine RL.nil ?_
     exact ⟨rfl, ⟨_, rfl, rfl⟩, .inl ⟨e7, e15, trivial, trivial, List.Perm.refl _⟩⟩
    ·have u14 : ρ 14 = .pointer (some ⟨b14, 0, none⟩) := hS.fix 14 (by decide)
     have u72 : ρ 72 = .int .i64 (countP ss a.mo a.what a.up).1 := hρ.1
     clear hS hρ
     obtain ⟨base, rfl⟩ := Has.base (ρ := ρ) (l := [(14, .pointer (some ⟨b14, 0, none⟩)), (72, .int .i64 (countP ss a.mo a.what a.up).1)]) ⟨u14, u72, trivial⟩
     clear u14 u72
     refine RL.perm rfl hL.symm ?_
     clear hL
     refine RL.fieldAddr rfl fd36_3 rfl ?_
     refine RL.nil ?_
     exact ⟨rfl, ⟨_, rfl, rfl⟩, .inr (.inl ⟨e7, e15, trivial, ⟨rfl, trivial⟩, List.Perm.refl _⟩)⟩
    exact hS.hi 15 rfl (by kernel_rfl) e15
   ·intro ρ L D hS
    rcases hS.sp with ⟨e7, e15, -, hρ, hL⟩ | ⟨e7, e15, -, hρ, hL⟩ | ⟨e7, e15, -, hρ, hL⟩
    ·have u78 : ρ 78 = .pointer (some ⟨b14, 0 + 3, none⟩) := hS.dep ⟨13, Ground.data⟩ (by simp) rfl _ _ rfl rfl
     clear hS hρ
     obtain ⟨base, rfl⟩ := Has.base (ρ := ρ) (l := [(78, .pointer (some ⟨b14, 0 + 3, none⟩))]) ⟨u78, trivial⟩
     clear u78
     refine RL.perm rfl hL.symm ?_
     clear hL
     refine RL.loadO rfl sc4 rfl rfl ?_
     refine RL.nil ?_
     exact ⟨rfl, ⟨_, rfl, rfl⟩, .inl ⟨e7, e15, trivial, trivial, List.Perm.refl _⟩⟩
    ·have u72 : ρ 72 = .int .i64 (countP ss a.mo a.what a.up).1 := hρ.1
     have u78 : ρ 78 = .pointer (some ⟨b14, 0 + 3, none⟩) := hS.dep ⟨13, Ground.data⟩ (by simp) rfl _ _ rfl rfl
     clear hS hρ
     obtain ⟨base, rfl⟩ := Has.base (ρ := ρ) (l := [(72, .int .i64 (countP ss a.mo a.what a.up).1), (78, .pointer (some ⟨b14, 0 + 3, none⟩))]) ⟨u72, u78, trivial⟩
     clear u72 u78
     refine RL.perm rfl hL.symm ?_
     clear hL
     refine RL.loadO rfl sc4 rfl rfl ?_
     refine RL.nil ?_
     exact ⟨rfl, ⟨_, rfl, rfl⟩, .inr (.inl ⟨e7, e15, trivial, ⟨rfl, trivial⟩, List.Perm.refl _⟩)⟩
    exact hS.hi 15 rfl (by kernel_rfl) e15
   ·intro ρ L D hS
    rcases hS.sp with ⟨e7, e15, -, hρ, hL⟩ | ⟨e7, e15, -, hρ, hL⟩ | ⟨e7, e15, -, hρ, hL⟩
    ·exact hS.lo 7 (by kernel_rfl) e7
    ·have u72 : ρ 72 = .int .i64 (countP ss a.mo a.what a.up).1 := hρ.1
     have u73 : ρ 73 = .pointer (some ⟨xb, 0, none⟩) := hS.dep ⟨8, Ground.data⟩ (by simp) rfl _ _ rfl rfl
     have u75 : ρ 75 = .int .i64 a.mo := hS.dep ⟨10, Ground.data⟩ (by simp) rfl _ _ rfl rfl
     have u77 : ρ 77 = .int .i64 a.what := hS.dep ⟨12, Ground.data⟩ (by simp) rfl _ _ rfl rfl
     have u79 : ρ 79 = .bool a.up := hS.dep ⟨14, Ground.data⟩ (by simp) rfl _ _ rfl rfl
     clear hS hρ
     obtain ⟨base, rfl⟩ := Has.base (ρ := ρ) (l := [(72, .int .i64 (countP ss a.mo a.what a.up).1), (73, .pointer (some ⟨xb, 0, none⟩)), (75, .int .i64 a.mo), (77, .int .i64 a.what), (79, .bool a.up)]) ⟨u72, u73, u75, u77, u79, trivial⟩
     clear u72 u73 u75 u77 u79
     refine RL.perm rfl hL.symm ?_
     clear hL
     refine RL.fn (Lp := RefG xb cb cp2 junk ((d : Nat) : Int) vs (ss) (1 + p)) (Lr := RegG rb A cp Lr (((d : Nat) : Int)) xs ((countP ss a.mo a.what a.up).2) ++ [(b14, cel 36 a.cells)]) rfl rfl rfl en22 (by classical exact List.perm_iff_count.2 (fun z => by simp only [List.count_append, List.count_cons, List.count_nil, List.cons_append, List.nil_append, List.set_cons_zero, List.set_cons_succ] <;> omega)) (fun w1 hw1 => f_xcount a.mo a.what a.up xb cb cp2 (1 + p) junk ((d : Nat) : Int) vs ss (by omega) (by omega) hss.symm w1 (fun p hp => hw1.own p (List.mem_append_left _ hp)) (hw1.nodup.sublist ((List.sublist_append_left _ _).map _))) rfl ?_
     rintro _ Lz ⟨rfl, rfl⟩
     refine RL.nil ?_
     exact ⟨rfl, ⟨_, rfl, trivial⟩, .inr (.inr (⟨e7, rfl, trivial, ⟨rfl, rfl, trivial⟩, (pmm fun _ _ z => by simp only [pm1, pm2, pm3, pm4, pm5, pm6, List.cons_append, List.nil_append] <;> omega)⟩))⟩
    exact hS.me e15
   ·intro ρ L D hS
    rcases hS.sp with ⟨e7, e15, -, hρ, hL⟩ | ⟨e7, e15, -, hρ, hL⟩ | ⟨e7, e15, -, hρ, hL⟩
    ·exact hS.lo 7 (by kernel_rfl) e7
    ·exact hS.lo 15 (by kernel_rfl) e15
    have u72 : ρ 72 = .int .i64 (countP ss a.mo a.what a.up).1 := hρ.1
    have u80 : ρ 80 = .int .i64 (countP ss a.mo a.what a.up).1 := hρ.2.1
    clear hS hρ
    obtain ⟨base, rfl⟩ := Has.base (ρ := ρ) (l := [(72, .int .i64 (countP ss a.mo a.what a.up).1), (80, .int .i64 (countP ss a.mo a.what a.up).1)]) ⟨u72, u80, trivial⟩
    clear u72 u80
    refine RL.perm rfl hL.symm ?_
    clear hL
    refine RL.cmp_f rfl rfl rfl rfl (by show ¬ ((_ : Int) ≠ _); exact fun h => h rfl) ?_
    refine RL.nil ?_
    exact ⟨rfl, ⟨_, rfl, rfl⟩, .inr (.inr (⟨e7, e15, trivial, ⟨rfl, rfl, trivial⟩, List.Perm.refl _⟩))⟩
   intro ρ L D hD hT hfix hsp
   rcases hsp with ⟨e7, e15, -, hρ, hL⟩ | ⟨e7, e15, -, hρ, hL⟩ | ⟨e7, e15, -, hρ, hL⟩
   ·exact done_no hD 7 rfl e7
   ·exact done_no hD 15 rfl e15
   have u2 : ρ 2 = .slice A0 l.length c0 := hfix 2 (by decide)
   have u7 : ρ 7 = .slice A7 (1 + p) c7 := hfix 7 (by decide)
   have u9 : ρ 9 = .pointer (some ⟨rb, 0, none⟩) := hfix 9 (by decide)
   have u11 : ρ 11 = .pointer (some ⟨xb, 0, none⟩) := hfix 11 (by decide)
   have u13 : ρ 13 = .int .i64 g := hfix 13 (by decide)
   have u72 : ρ 72 = .int .i64 (countP ss a.mo a.what a.up).1 := hρ.1
   have u80 : ρ 80 = .int .i64 (countP ss a.mo a.what a.up).1 := hρ.2.1
   have u81 : ρ 81 = .bool false := hT 16 _ _ rfl rfl
   clear hT hfix hD hρ
   obtain ⟨base, rfl⟩ := Has.base (ρ := ρ) (l := [(2, .slice A0 l.length c0), (7, .slice A7 (1 + p) c7), (9, .pointer (some ⟨rb, 0, none⟩)), (11, .pointer (some ⟨xb, 0, none⟩)), (13, .int .i64 g), (72, .int .i64 (countP ss a.mo a.what a.up).1), (80, .int .i64 (countP ss a.mo a.what a.up).1), (81, .bool false)]) ⟨u2, u7, u9, u11, u13, u72, u80, u81, trivial⟩
   clear u2 u7 u9 u11 u13 u72 u80 u81
   refine ⟨_, hL.symm, ((RegG rb A cp Lr (((d : Nat) : Int)) xs ((countP ss a.mo a.what a.up).2)) ++ ((RefG xb cb cp2 junk ((d : Nat) : Int) vs ((countP ss a.mo a.what a.up).2) (1 + p)) ++ ([(b14, cel 36 a.cells)]))), List.Sublist.append (List.Sublist.refl _) (List.Sublist.append (List.Sublist.refl _) (List.Sublist.refl _)), ?_⟩
   refine X.cond_f rfl ?_
   refine X.skip ?_
   refine X.blk ?_
   exact X.hyp ⟨(countP ss a.mo a.what a.up).2, (countP_len _ _ _ _).trans hss, rfl, ⟨rfl, rfl, rfl, rfl, rfl, trivial⟩, rfl⟩
  rintro _ _ _ ⟨ss2, hs2, rfl, hρ, rfl⟩
  obtain ⟨base, rfl⟩ := hρ.base
  clear hρ
  refine X.seq ?_
  refine X.region rfl ?_
  refine RL.assign rfl ?_
  refine RL.nil ?_
  refine X.block ?_
  refine X.loop (γ := Nat) (fun j ρ L => (j ≤ 3 + p) ∧ Has ρ [(2, .slice A0 l.length c0), (7, .slice A7 (1 + p) c7), (9, .pointer (some ⟨rb, 0, none⟩)), (11, .pointer (some ⟨xb, 0, none⟩)), (13, .int .i64 g), (15, .int .i64 ((j : Int) - 1))] ∧ L = RegG rb A cp Lr (((d : Nat) : Int)) xs (ss2) ++ (RefG xb cb cp2 junk ((d : Nat) : Int) vs (ss2) (1 + p) ++ [(b14, cel 36 a.cells)])) (fun j => 3 + p - j) (0) ⟨_, (by repeat (first | exact sb0 _ | exact sb1 _ | (rw [List.append_nil]; exact sb0 _) | exact sb2 _ _ | exact sb3 _ _ _ | apply sb4 | apply sb5 | apply sb6)), Nat.zero_le _, ⟨rfl, rfl, rfl, rfl, rfl, rfl, trivial⟩, rfl⟩ ?_
  rintro j _ _ ⟨q1, hρ, rfl⟩
  obtain ⟨base, rfl⟩ := hρ.base
  clear hρ
  refine X.seq ?_
  refine X.seq ?_
  refine X.region rfl ?_
  refine RL.move rfl ?_
  refine RL.move rfl ?_
  refine RL.len rfl sl32 rfl ?_
  refine RL.cmp_s rfl rfl rfl rfl (fun hj => ?_) (fun hj => ?_)
  ·replace hj : (_ : Int) ≤ _ := hj
   by_cases hout : j = 0 ∨ j = 2 + p
   ·have hgs : getS ss2 ((j : Int) - 1) = none := getS_out (by omega)
    refine RL.nil ?_
    refine X.cond_t rfl ?_
    refine X.skip ?_
    refine X.seq ?_
    refine X.block ?_
    refine X.seq ?_
    refine X.region rfl ?_
    refine RL.move rfl ?_
    refine RL.move rfl ?_
    refine RL.fn0 rfl rfl rfl en23 (fun w hw => ((f_idle ((j : Int) - 1) rb ((d : Nat) : Int) xs ss2 w (regG_reads hw hrow (by rw [hxl]; exact hs2) (fun p hp => List.mem_append_left _ hp))).mono fun v L h => (by rw [h]; unfold idleP; rw [hgs] : v = .tuple #[.int .i64 0, .bool false]))) rfl ?_
    rintro _ _ rfl
    refine RL.drop rfl (List.sublist_append_right _ _) ?_
    refine RL.move rfl ?_
    refine RL.extract rfl rfl rfl ?_
    refine RL.extract rfl rfl rfl ?_
    refine RL.assign rfl ?_
    refine RL.assign rfl ?_
    refine RL.nil ?_
    refine X.seq ?_
    refine X.seq ?_
    refine X.region rfl ?_
    refine RL.move rfl ?_
    refine RL.cmp_s rfl rfl rfl rfl (fun h0 => ?_) (fun h0 => ?_)
    ·replace h0 : (_ : Int) < _ := h0
     refine RL.move rfl ?_
     refine RL.skip rfl ?_
     refine RL.skip rfl ?_
     refine RL.skip rfl ?_
     refine RL.skip rfl ?_
     refine RL.pick_t rfl rfl ?_
     refine RL.nil ?_
     refine X.cond_t rfl ?_
     refine X.seq ?_
     refine X.seq ?_
     refine X.region rfl ?_
     refine RL.move rfl ?_
     refine RL.move rfl ?_
     refine RL.fn0 rfl rfl rfl en15 (fun w hw => ((f_loaded ((j : Int) - 1) rb ((d : Nat) : Int) xs ss2 w (regG_reads hw hrow (by rw [hxl]; exact hs2) (fun p hp => List.mem_append_left _ hp))).mono fun v L h => (by rw [h]; unfold loadedP; rw [hgs]; rfl : v = .bool false))) rfl ?_
     rintro _ _ rfl
     refine RL.drop rfl (List.sublist_append_right _ _) ?_
     refine RL.move rfl ?_
     refine RL.move rfl ?_
     refine RL.pick_f rfl rfl ?_
     refine RL.move rfl ?_
     refine RL.move rfl ?_
     refine RL.cmp_f rfl rfl rfl rfl (by show ¬ ((_ : Int) ≠ _); exact fun h => h rfl) ?_
     refine RL.pick_f rfl rfl ?_
     refine RL.nil ?_
     refine X.cond_f rfl ?_
     refine X.skip ?_
     refine X.exit rfl ?_
     refine X.region rfl ?_
     refine RL.move rfl ?_
     refine RL.add rfl rfl rfl (by omega) ?_
     refine RL.assign rfl ?_
     refine RL.nil ?_
     refine X.hyp ⟨rfl, j + 1, by omega, _, (by repeat (first | exact sb0 _ | exact sb1 _ | (rw [List.append_nil]; exact sb0 _) | exact sb2 _ _ | exact sb3 _ _ _ | apply sb4 | apply sb5 | apply sb6)), by omega, ⟨rfl, rfl, rfl, rfl, rfl, congrArg (Value.int .i64) (by omega), trivial⟩, rfl⟩
    replace h0 : ¬ ((_ : Int) < _) := h0
    refine RL.move rfl ?_
    refine RL.move rfl ?_
    refine RL.move rfl ?_
    refine RL.len rfl sl32 rfl ?_
    refine RL.cmp_s rfl rfl rfl rfl (fun h1 => ?_) (fun h1 => ?_)
    ·replace h1 : (_ : Int) = _ := h1
     refine RL.pick_f rfl rfl ?_
     refine RL.nil ?_
     refine X.cond_t rfl ?_
     refine X.seq ?_
     refine X.seq ?_
     refine X.region rfl ?_
     refine RL.move rfl ?_
     refine RL.move rfl ?_
     refine RL.fn0 rfl rfl rfl en15 (fun w hw => ((f_loaded ((j : Int) - 1) rb ((d : Nat) : Int) xs ss2 w (regG_reads hw hrow (by rw [hxl]; exact hs2) (fun p hp => List.mem_append_left _ hp))).mono fun v L h => (by rw [h]; unfold loadedP; rw [hgs]; rfl : v = .bool false))) rfl ?_
     rintro _ _ rfl
     refine RL.drop rfl (List.sublist_append_right _ _) ?_
     refine RL.move rfl ?_
     refine RL.move rfl ?_
     refine RL.pick_f rfl rfl ?_
     refine RL.move rfl ?_
     refine RL.move rfl ?_
     refine RL.cmp_f rfl rfl rfl rfl (by show ¬ ((_ : Int) ≠ _); exact fun h => h rfl) ?_
     refine RL.pick_f rfl rfl ?_
     refine RL.nil ?_
     refine X.cond_f rfl ?_
     refine X.skip ?_
     refine X.exit rfl ?_
     refine X.region rfl ?_
     refine RL.move rfl ?_
     refine RL.add rfl rfl rfl (by omega) ?_
     refine RL.assign rfl ?_
     refine RL.nil ?_
     refine X.hyp ⟨rfl, j + 1, by omega, _, (by repeat (first | exact sb0 _ | exact sb1 _ | (rw [List.append_nil]; exact sb0 _) | exact sb2 _ _ | exact sb3 _ _ _ | apply sb4 | apply sb5 | apply sb6)), by omega, ⟨rfl, rfl, rfl, rfl, rfl, congrArg (Value.int .i64) (by omega), trivial⟩, rfl⟩
    replace h1 : ¬ ((_ : Int) = _) := h1
    exfalso; omega
   obtain ⟨i, rfl⟩ : ∃ i, j = i + 1 := ⟨j - 1, by omega⟩
   have eK : (((i + 1 : Nat) : Int) - 1) = (i : Int) := by omega
   rw [eK]
   obtain ⟨s, hs⟩ : ∃ s, ss2[i]? = some s := ⟨_, List.getElem?_eq_getElem (by omega)⟩
   obtain ⟨vm, hvm⟩ : ∃ v, vs[i]? = some v := ⟨_, List.getElem?_eq_getElem (by omega)⟩
   have hgs := getS_in hs
   have hxr : (rEl vm s).length = 6 := rfl
   have hx1 := rEl_one s (hmo.one vm (List.mem_of_getElem? hvm))
   cases hr : restsP s
   ·refine RL.nil ?_
    refine X.cond_t rfl ?_
    refine X.skip ?_
    refine X.seq ?_
    refine X.block ?_
    refine X.seq ?_
    refine X.region rfl ?_
    refine RL.move rfl ?_
    refine RL.move rfl ?_
    refine RL.fn0 rfl rfl rfl en23 (fun w hw => ((f_idle (i : Int) rb ((d : Nat) : Int) xs ss2 w (regG_reads hw hrow (by rw [hxl]; exact hs2) (fun p hp => List.mem_append_left _ hp))).mono fun v L h => (by rw [h]; unfold idleP; rw [hgs]; simp [hr] : v = .tuple #[.int .i64 (0), .bool false]))) rfl ?_
    rintro _ _ rfl
    refine RL.drop rfl (List.sublist_append_right _ _) ?_
    refine RL.move rfl ?_
    refine RL.extract rfl rfl rfl ?_
    refine RL.extract rfl rfl rfl ?_
    refine RL.assign rfl ?_
    refine RL.assign rfl ?_
    refine RL.nil ?_
    refine X.seq ?_
    refine X.seq ?_
    refine X.region rfl ?_
    refine RL.move rfl ?_
    refine RL.cmp_f rfl rfl rfl rfl (by show ¬ ((_ : Int) < _); omega) ?_
    refine RL.move rfl ?_
    refine RL.move rfl ?_
    refine RL.move rfl ?_
    refine RL.len rfl sl32 rfl ?_
    refine RL.cmp_f rfl rfl rfl rfl (by show ¬ ((_ : Int) = _); omega) ?_
    refine RL.pick_f rfl rfl ?_
    refine RL.nil ?_
    refine X.cond_f rfl ?_
    refine X.skip ?_
    refine X.seq ?_
    refine X.region rfl ?_
    refine RL.move rfl ?_
    refine RL.nilCheck rfl rfl ?_
    refine RL.fieldAddr rfl fd61_0 rfl ?_
    refine RL.loadO rfl sc59 rfl rfl ?_
    refine RL.move rfl ?_
    refine RL.indexAddr rfl sl59 rfl rfl rfl rfl (by omega) ?_
    refine RL.loadOA rfl ag58 rfl (rcells_take hvm hs) hxr ?_
    refine RL.alloc rfl rfl zt58 ?_
    intro b18 hb18
    dsimp only at hb18
    refine RL.stA rfl rfl ag58.size rfl rfl hxr rfl hx1 ?_
    refine RL.nil ?_
    refine X.seq ?_
    refine X.draw (by kernel_rfl) (by kernel_rfl) ?_
    refine RL.move rfl ?_
    refine RL.move rfl ?_
    refine RL.fnQ (v := .bool s.on) rfl rfl en15 (fun w1 hw1 => (f_loaded (i : Int) rb ((d : Nat) : Int) xs ss2 w1 (regG_reads hw1 hrow (by rw [hxl]; exact hs2) (fun p hp => List.mem_cons_of_mem _ (List.mem_append_left _ hp)))).mono fun v L h => (by rw [h, loadedP_in hs])) rfl ?_
    refine RL.fieldAddr rfl fd58_1 rfl ?_
    refine RL.loadO rfl sc4 rfl rfl ?_
    refine RL.neBs rfl Try.underlying4 rfl rfl ?_
    refine RL.move rfl ?_
    refine RL.move rfl ?_
    refine RL.loadOA rfl ag58 rfl (take_all hxr) hxr ?_
    refine RL.fnQ (v := .bool false) rfl rfl en24 (fun w1 hw1 => (f_isidle vm s w1).mono fun v L h => (by rw [h, hr])) rfl ?_
    refine RL.neBs rfl Try.underlying4 rfl rfl ?_
    refine RL.pick_f rfl rfl ?_
    refine RL.move rfl ?_
    refine RL.move rfl ?_
    refine RL.move rfl ?_
    refine RL.skip rfl ?_
    refine RL.skip rfl ?_
    refine RL.skip rfl ?_
    refine RL.skip rfl ?_
    refine RL.pick_f rfl rfl ?_
    refine RL.pick_f rfl rfl ?_
    refine RL.move rfl ?_
    refine RL.move rfl ?_
    refine RL.not rfl rfl ?_
    refine RL.move rfl ?_
    refine RL.move rfl ?_
    refine RL.cmp_f rfl rfl rfl rfl (by show ¬ ((_ : Int) ≠ _); exact fun h => h rfl) ?_
    refine RL.pick_t rfl rfl ?_
    refine RL.pick_f rfl rfl ?_
    refine RL.nil ?_
    refine X.cond_f rfl ?_
    refine X.skip ?_
    refine X.blk ?_
    refine X.region rfl ?_
    refine RL.move rfl ?_
    refine RL.add rfl rfl rfl (by omega) ?_
    refine RL.assign rfl ?_
    refine RL.nil ?_
    refine X.hyp ⟨rfl, i + 1 + 1, by omega, _, (by repeat (first | exact sb0 _ | exact sb1 _ | (rw [List.append_nil]; exact sb0 _) | exact sb2 _ _ | exact sb3 _ _ _ | apply sb4 | apply sb5 | apply sb6)), by omega, ⟨rfl, rfl, rfl, rfl, rfl, congrArg (Value.int .i64) (by omega), trivial⟩, rfl⟩
   refine RL.nil ?_
   refine X.cond_t rfl ?_
   refine X.skip ?_
   refine X.seq ?_
   refine X.block ?_
   refine X.seq ?_
   refine X.region rfl ?_
   refine RL.move rfl ?_
   refine RL.move rfl ?_
   refine RL.fn0 rfl rfl rfl en23 (fun w hw => ((f_idle (i : Int) rb ((d : Nat) : Int) xs ss2 w (regG_reads hw hrow (by rw [hxl]; exact hs2) (fun p hp => List.mem_append_left _ hp))).mono fun v L h => (by rw [h]; unfold idleP; rw [hgs]; simp [hr] : v = .tuple #[.int .i64 (s.idle), .bool true]))) rfl ?_
   rintro _ _ rfl
   refine RL.drop rfl (List.sublist_append_right _ _) ?_
   refine RL.move rfl ?_
   refine RL.extract rfl rfl rfl ?_
   refine RL.extract rfl rfl rfl ?_
   refine RL.assign rfl ?_
   refine RL.assign rfl ?_
   refine RL.nil ?_
   refine X.seq ?_
   refine X.seq ?_
   refine X.region rfl ?_
   refine RL.move rfl ?_
   refine RL.cmp_f rfl rfl rfl rfl (by show ¬ ((_ : Int) < _); omega) ?_
   refine RL.move rfl ?_
   refine RL.move rfl ?_
   refine RL.move rfl ?_
   refine RL.len rfl sl32 rfl ?_
   refine RL.cmp_f rfl rfl rfl rfl (by show ¬ ((_ : Int) = _); omega) ?_
   refine RL.pick_f rfl rfl ?_
   refine RL.nil ?_
   refine X.cond_f rfl ?_
   refine X.skip ?_
   refine X.seq ?_
   refine X.region rfl ?_
   refine RL.move rfl ?_
   refine RL.nilCheck rfl rfl ?_
   refine RL.fieldAddr rfl fd61_0 rfl ?_
   refine RL.loadO rfl sc59 rfl rfl ?_
   refine RL.move rfl ?_
   refine RL.indexAddr rfl sl59 rfl rfl rfl rfl (by omega) ?_
   refine RL.loadOA rfl ag58 rfl (rcells_take hvm hs) hxr ?_
   refine RL.alloc rfl rfl zt58 ?_
   intro b18 hb18
   dsimp only at hb18
   refine RL.stA rfl rfl ag58.size rfl rfl hxr rfl hx1 ?_
   refine RL.nil ?_
   refine X.seq ?_
   refine X.draw (by kernel_rfl) (by kernel_rfl) ?_
   refine RL.move rfl ?_
   refine RL.move rfl ?_
   refine RL.fnQ (v := .bool s.on) rfl rfl en15 (fun w1 hw1 => (f_loaded (i : Int) rb ((d : Nat) : Int) xs ss2 w1 (regG_reads hw1 hrow (by rw [hxl]; exact hs2) (fun p hp => List.mem_cons_of_mem _ (List.mem_append_left _ hp)))).mono fun v L h => (by rw [h, loadedP_in hs])) rfl ?_
   refine RL.fieldAddr rfl fd58_1 rfl ?_
   refine RL.loadO rfl sc4 rfl rfl ?_
   refine RL.neBs rfl Try.underlying4 rfl rfl ?_
   refine RL.move rfl ?_
   refine RL.move rfl ?_
   refine RL.loadOA rfl ag58 rfl (take_all hxr) hxr ?_
   refine RL.fnQ (v := .bool true) rfl rfl en24 (fun w1 hw1 => (f_isidle vm s w1).mono fun v L h => (by rw [h, hr])) rfl ?_
   refine RL.neBs rfl Try.underlying4 rfl rfl ?_
   refine RL.pick_f rfl rfl ?_
   refine RL.move rfl ?_
   refine RL.move rfl ?_
   refine RL.move rfl ?_
   refine RL.move rfl ?_
   refine RL.fieldAddr rfl fd58_3 rfl ?_
   refine RL.loadO rfl sc3 rfl rfl ?_
   refine RL.cmp_f rfl rfl rfl rfl (by show ¬ ((_ : Int) ≠ _); exact fun h => h rfl) ?_
   refine RL.pick_t rfl rfl ?_
   refine RL.pick_f rfl rfl ?_
   refine RL.move rfl ?_
   refine RL.move rfl ?_
   refine RL.not rfl rfl ?_
   refine RL.move rfl ?_
   refine RL.skip rfl ?_
   refine RL.skip rfl ?_
   refine RL.pick_f rfl rfl ?_
   refine RL.pick_f rfl rfl ?_
   refine RL.nil ?_
   refine X.cond_f rfl ?_
   refine X.skip ?_
   refine X.blk ?_
   refine X.region rfl ?_
   refine RL.move rfl ?_
   refine RL.add rfl rfl rfl (by omega) ?_
   refine RL.assign rfl ?_
   refine RL.nil ?_
   refine X.hyp ⟨rfl, i + 1 + 1, by omega, _, (by repeat (first | exact sb0 _ | exact sb1 _ | (rw [List.append_nil]; exact sb0 _) | exact sb2 _ _ | exact sb3 _ _ _ | apply sb4 | apply sb5 | apply sb6)), by omega, ⟨rfl, rfl, rfl, rfl, rfl, congrArg (Value.int .i64) (by omega), trivial⟩, rfl⟩
  replace hj : ¬ ((_ : Int) ≤ _) := hj
  refine RL.nil ?_
  refine X.cond_f rfl ?_
  refine X.exit rfl ?_
  refine X.blk ?_
  refine X.region rfl ?_
  refine RL.move rfl ?_
  refine RL.add rfl rfl rfl (by omega) ?_
  refine RL.assign rfl ?_
  refine RL.nil ?_
  refine X.hyp ⟨rfl, g + 1, by omega, _, ((List.Sublist.refl _).append (List.sublist_append_left _ _)), ss2, by omega, hs2, ⟨rfl, rfl, rfl, rfl, rfl, trivial⟩, rfl⟩
 refine X.exit rfl ?_
 refine X.seq ?_
 refine X.region rfl ?_
 refine RL.fn0 rfl rfl rfl en16 (fun w hw => (f_awake w)) rfl ?_
 rintro _ _ rfl
 refine RL.drop rfl (List.sublist_append_right _ _) ?_
 refine RL.assign rfl ?_
 refine RL.nil ?_
 refine X.ret ?_
 exact ret1 rfl rfl
end Go.Proofs.Ytnebpklmbefmfaa

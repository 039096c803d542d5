/- New, twice told; one module; a class. -/
import Derived.Test.YtnebpklmbefmfaaR4
import Derived.Test.YtnebpklmbefmfaaC3
import Derived.Test.YtnebpklmbefmfaaD4
import Derived.Test.YtnebpklmbefmfaaOne
set_option linter.unusedVariables false
set_option linter.unusedSimpArgs false
namespace Go.Proofs.Ytnebpklmbefmfaa
open Go.RowKit
attribute [local irreducible] X RL W Ctr
set_option maxHeartbeats 1000000 in
set_option maxRecDepth 10000 in
theorem f_new (ms : List (List Cl)) (hsz : MsSz ms) (A0 : Option Addr) (c0 : Nat) (delay : Int) (hd64 : ms.length ≤ 1000000) (w : World) (hms : ModsR w ms A0) (hB : MsB ms) : Ctr Try.prog 10 [.slice A0 ms.length c0, .int .i64 delay] w [] fun v L => (newP ms delay ≠ 0 ∧ v = .tuple #[.pointer none, .int .i64 (newP ms delay)]) ∨ (newP ms delay = 0 ∧ ∃ rb A cp Lr xs Lst, v = .tuple #[.pointer (some ⟨rb, 0, none⟩), .int .i64 0] ∧ RowM xs A cp Lr ∧ StaO ms xs Lst ∧ (RegG rb A cp Lr delay xs (List.replicate ms.length mv0) ++ Lst).Sublist L) := by
 obtain ⟨vs, ⟨bb, oo, hA0, hvs⟩, hsta⟩ := hms
 have hvl := hsta.len
 refine Ctr.intro0 (n := 89) Try.func10 rfl Try.ntmps10 (Nat.le_of_ble_eq_true rfl) ?_
 refine X.seq ?_
 refine X.region rfl ?_
 refine RL.assign rfl ?_
 refine RL.assign rfl ?_
 refine RL.nil ?_
 refine X.seq ?_
 refine X.block ?_
 refine X.seq ?_
 refine X.region rfl ?_
 refine RL.move rfl ?_
 refine RL.cmp_s rfl rfl rfl rfl (fun c1 => ?_) (fun c1 => ?_)
 ·replace c1 : (_ : Int) < _ := c1
  refine RL.move rfl ?_
  refine RL.skip rfl ?_
  refine RL.skip rfl ?_
  refine RL.pick_t rfl rfl ?_
  refine RL.assign rfl ?_
  refine RL.nil ?_
  refine X.cond_t rfl ?_
  refine X.seq ?_
  refine X.region rfl ?_
  refine RL.assign rfl ?_
  refine RL.assign rfl ?_
  refine RL.nil ?_
  refine X.ret ?_
  refine ret2 rfl ?_
  show _ ∨ _
  have hN : newP ms delay = 1 := newP_d (.inl c1)
  exact .inl ⟨by rw [hN]; decide, by rw [hN]⟩
 replace c1 : ¬ ((_ : Int) < _) := c1
 refine RL.move rfl ?_
 refine RL.move rfl ?_
 refine RL.cmp_s rfl rfl rfl rfl (fun c2 => ?_) (fun c2 => ?_)
 ·replace c2 : (_ : Int) > _ := c2
  refine RL.pick_f rfl rfl ?_
  refine RL.assign rfl ?_
  refine RL.nil ?_
  refine X.cond_t rfl ?_
  refine X.seq ?_
  refine X.region rfl ?_
  refine RL.assign rfl ?_
  refine RL.assign rfl ?_
  refine RL.nil ?_
  refine X.ret ?_
  refine ret2 rfl ?_
  show _ ∨ _
  have hN : newP ms delay = 1 := newP_d (.inr (by omega))
  exact .inl ⟨by rw [hN]; decide, by rw [hN]⟩
 replace c2 : ¬ ((_ : Int) > _) := c2
 have hd : ¬ (delay < 0 ∨ 1000 < delay) := by omega
 refine RL.pick_f rfl rfl ?_
 refine RL.assign rfl ?_
 refine RL.nil ?_
 refine X.cond_f rfl ?_
 refine X.seq ?_
 refine X.region rfl ?_
 refine RL.move rfl ?_
 refine RL.len rfl sl32 rfl ?_
 refine RL.cmp_s rfl rfl rfl rfl (fun c3 => ?_) (fun c3 => ?_)
 ·replace c3 : (_ : Int) < _ := c3
  refine RL.move rfl ?_
  refine RL.skip rfl ?_
  refine RL.skip rfl ?_
  refine RL.skip rfl ?_
  refine RL.pick_t rfl rfl ?_
  refine RL.assign rfl ?_
  refine RL.nil ?_
  refine X.cond_t rfl ?_
  refine X.seq ?_
  refine X.region rfl ?_
  refine RL.assign rfl ?_
  refine RL.assign rfl ?_
  refine RL.nil ?_
  refine X.ret ?_
  refine ret2 rfl ?_
  show _ ∨ _
  have hN : newP ms delay = 20 := newP_l hd (.inl (by omega))
  exact .inl ⟨by rw [hN]; decide, by rw [hN]⟩
 replace c3 : ¬ ((_ : Int) < _) := c3
 refine RL.move rfl ?_
 refine RL.move rfl ?_
 refine RL.len rfl sl32 rfl ?_
 refine RL.cmp_s rfl rfl rfl rfl (fun c4 => ?_) (fun c4 => ?_)
 ·replace c4 : (_ : Int) > _ := c4
  refine RL.pick_f rfl rfl ?_
  refine RL.assign rfl ?_
  refine RL.nil ?_
  refine X.cond_t rfl ?_
  refine X.seq ?_
  refine X.region rfl ?_
  refine RL.assign rfl ?_
  refine RL.assign rfl ?_
  refine RL.nil ?_
  refine X.ret ?_
  refine ret2 rfl ?_
  show _ ∨ _
  have hN : newP ms delay = 20 := newP_l hd (.inr (by omega))
  exact .inl ⟨by rw [hN]; decide, by rw [hN]⟩
 replace c4 : ¬ ((_ : Int) > _) := c4
 have hl : ¬ (ms.length < 1 ∨ 4 < ms.length) := by omega
 refine RL.pick_f rfl rfl ?_
 refine RL.assign rfl ?_
 refine RL.nil ?_
 refine X.cond_f rfl ?_
 refine X.skip ?_
 refine X.blk ?_
 refine X.seq ?_
 refine X.region rfl ?_
 refine RL.move rfl ?_
 refine RL.bldC (vs := [(1, .int .i64 delay)]) (cells := [.slice none 0 0, .int .i64 delay]) rfl rfl (fun w => by kernel_rfl) ?_
 refine RL.boxA rfl rfl rfl ?_
 intro b1 hb1
 dsimp only at hb1
 refine RL.assign rfl ?_
 refine RL.nil ?_
 refine X.seq ?_
 refine X.seq ?_
 refine X.region rfl ?_
 refine RL.move rfl ?_
 refine RL.len rfl sl32 rfl ?_
 refine RL.move rfl ?_
 refine RL.nil ?_
 refine X.block ?_
 refine X.loop (γ := Nat) (fun g ρ L => ∃ A : Option Addr, ∃ cp : Nat, ∃ Lr : List Ent, ∃ xs : List Ms, ∃ Lst : List Ent, (g ≤ ms.length) ∧ (xs.length = g) ∧ (RowM xs A cp Lr) ∧ (StaO (ms.take g) xs Lst) ∧ (∀ (j : Nat) m, j < g → ms[j]? = some m → verM ms j m = none) ∧ Has ρ [(6, .pointer (some ⟨b1, 0, none⟩)), (37, .slice A0 ms.length c0), (38, .int .i64 ms.length), (39, .int .i64 g)] ∧ L = RegG b1 A cp Lr delay xs (List.replicate g mv0) ++ Lst) (fun g => ms.length - g) (0) ⟨_, (by repeat (first | exact sb0 _ | exact sb1 _ | (rw [List.append_nil]; exact sb0 _) | exact sb2 _ _ | exact sb3 _ _ _ | apply sb4 | apply sb5 | apply sb6)), none, 0, [], [], [], Nat.zero_le _, rfl, Row.nil, StaO.nil, fun j m hj => absurd hj (Nat.not_lt_zero j), ⟨rfl, rfl, rfl, rfl, trivial⟩, rfl⟩ ?_
 rintro g _ _ ⟨A, cp, Lr, xs, Lst, hg0, hxg, hrow, hst, hq, hρ, rfl⟩
 obtain ⟨base, rfl⟩ := hρ.base
 clear hρ
 refine X.seq ?_
 refine X.region rfl ?_
 refine RL.cmp_s rfl rfl rfl rfl (fun hg => ?_) (fun hg => ?_)
 ·replace hg : (_ : Int) < _ := hg
  obtain ⟨m, hm⟩ : ∃ m, ms[g]? = some m := ⟨_, List.getElem?_eq_getElem (by omega)⟩
  obtain ⟨Am, cm, hv0, hmr⟩ := hsta.get g m hm
  obtain ⟨hml, hmz⟩ := hsz.get hm
  have hid := mod_ids hmr
  have hcb := hB m (List.mem_of_getElem? hm)
  refine RL.nil ?_
  refine X.seq ?_
  refine X.cond_t rfl ?_
  refine X.skip ?_
  refine X.seq ?_
  refine X.block ?_
  refine X.seq ?_
  refine X.region rfl ?_
  refine RL.indexAddr rfl sl32 rfl rfl (hA0 (by omega)) rfl (by omega) ?_
  refine RL.loadIA rfl ag30 rfl (cells_one hvs hv0) (by simp) rfl ?_
  refine RL.alloc rfl rfl zt30 ?_
  intro b8 hb8
  dsimp only at hb8
  refine RL.stA rfl rfl ag30.size rfl rfl rfl rfl (by simp [Value.oneCell']) ?_
  refine RL.nil ?_
  refine X.seq ?_
  refine X.region rfl ?_
  refine RL.loadOA rfl ag30 rfl (show List.take 1 (List.drop 0 [.slice Am m.length cm]) = [.slice Am m.length cm] from rfl) rfl ?_
  refine RL.fn (Lp := []) (Lr := (b8, cel 30 [.slice Am m.length cm]) :: (RegG b1 A cp Lr delay xs (List.replicate g mv0) ++ Lst)) rfl rfl rfl en30 (List.Perm.refl _) (fun w1 hw1 => f_encode m hmz hml Am cm w1 (hmr.st0 hw1)) rfl ?_
  rintro _ Lz hz
  by_cases hv : (mcheckP m).2 ≠ 0
  ·rw [if_neg hv] at hz
   subst hz
   refine RL.drop (L' := (b8, cel 30 [.slice Am m.length cm]) :: (RegG b1 A cp Lr delay xs (List.replicate g mv0) ++ Lst)) rfl (List.sublist_append_right _ _) ?_
   refine RL.move rfl ?_
   refine RL.extract rfl rfl rfl ?_
   refine RL.extract rfl rfl rfl ?_
   refine RL.assign rfl ?_
   refine RL.assign rfl ?_
   refine RL.nil ?_
   refine X.seq ?_
   refine X.seq ?_
   refine X.region rfl ?_
   refine RL.move rfl ?_
   refine RL.cmp_t rfl rfl rfl rfl (by show ((_ : Int) ≠ _); exact hv) ?_
   refine RL.nil ?_
   refine X.cond_t rfl ?_
   refine X.seq ?_
   refine X.region rfl ?_
   refine RL.move rfl ?_
   refine RL.assign rfl ?_
   refine RL.assign rfl ?_
   refine RL.nil ?_
   refine X.ret ?_
   refine ret2 rfl ?_
   show _ ∨ _
   have hN : newP ms delay = (mcheckP m).2 := newP_hit hd hl hm hq (verM_c hv)
   exact .inl ⟨by rw [hN]; exact hv, by rw [hN]⟩
  have hv0 : (mcheckP m).2 = 0 := by omega
  rw [if_pos hv0] at hz
  obtain ⟨A2, n2, cp2, Lr2, rfl, hr2, hs2, hn2⟩ := hz
  obtain ⟨hl2, hcp2⟩ := row_len hr2
  rw [gcells_len] at hl2
  subst hl2
  refine RL.drop (L' := Lr2 ++ ((b8, cel 30 [.slice Am m.length cm]) :: (RegG b1 A cp Lr delay xs (List.replicate g mv0) ++ Lst))) rfl (List.Sublist.append hs2 (List.Sublist.refl _)) ?_
  obtain ⟨bb2, oo2, hAm, hcl⟩ := hmr.open
  refine RL.move rfl ?_
  refine RL.extract rfl rfl rfl ?_
  refine RL.extract rfl rfl rfl ?_
  refine RL.assign rfl ?_
  refine RL.assign rfl ?_
  refine RL.nil ?_
  refine X.seq ?_
  refine X.seq ?_
  refine X.region rfl ?_
  refine RL.move rfl ?_
  refine RL.cmp_f rfl rfl rfl rfl (by show ¬ ((_ : Int) ≠ _); exact fun h => h rfl) ?_
  refine RL.nil ?_
  refine X.cond_f rfl ?_
  refine X.skip ?_
  refine X.seq ?_
  refine X.seq ?_
  refine X.region rfl ?_
  refine RL.fieldAddr rfl fd30_0 rfl ?_
  refine RL.loadO rfl sc28 rfl rfl ?_
  refine RL.len rfl sl28 rfl ?_
  refine RL.move rfl ?_
  refine RL.nil ?_
  refine X.block ?_
  refine X.drop (L' := Lr2 ++ (RegG b1 A cp Lr delay xs (List.replicate g mv0) ++ Lst)) (List.Sublist.append (List.Sublist.refl _) (List.sublist_cons_self _ _)) ?_
  refine X.loop (γ := Nat) (fun k ρ L => (k ≤ m.length) ∧ (∀ (j : Nat) c, j < k → m[j]? = some c → rfindP (ms.take g) c.id = none) ∧ Has ρ [(6, .pointer (some ⟨b1, 0, none⟩)), (9, .slice A2 (encP m).length cp2), (37, .slice A0 ms.length c0), (38, .int .i64 ms.length), (39, .int .i64 g), (52, .slice Am m.length cm), (53, .int .i64 m.length), (54, .int .i64 k)] ∧ L = Lr2 ++ (RegG b1 A cp Lr delay xs (List.replicate g mv0) ++ Lst)) (fun k => m.length - k) (0) ⟨_, (by repeat (first | exact sb0 _ | exact sb1 _ | (rw [List.append_nil]; exact sb0 _) | exact sb2 _ _ | exact sb3 _ _ _ | apply sb4 | apply sb5 | apply sb6)), Nat.zero_le _, fun j c hj => absurd hj (Nat.not_lt_zero j), ⟨rfl, rfl, rfl, rfl, rfl, rfl, rfl, rfl, trivial⟩, rfl⟩ ?_
  rintro k _ _ ⟨hk0, hf, hρ, rfl⟩
  obtain ⟨base, rfl⟩ := hρ.base
  clear hρ
  refine X.seq ?_
  refine X.region rfl ?_
  refine RL.cmp_s rfl rfl rfl rfl (fun hk => ?_) (fun hk => ?_)
  ·replace hk : (_ : Int) < _ := hk
   obtain ⟨cl, hcl1⟩ : ∃ cl, m[k]? = some cl := ⟨_, List.getElem?_eq_getElem (by omega)⟩
   obtain ⟨cs, hcs, hcr⟩ := hcl k cl hcl1
   have hci := hcr.id
   refine RL.nil ?_
   refine X.seq ?_
   refine X.cond_t rfl ?_
   refine X.skip ?_
   refine X.seq ?_
   refine X.block ?_
   refine X.seq ?_
   refine X.region rfl ?_
   refine RL.indexAddr rfl sl28 rfl rfl (hAm (by omega)) rfl (by omega) ?_
   refine RL.loadIA rfl ag69 rfl hcs (by simp) hcr.len ?_
   refine RL.alloc rfl rfl zt69 ?_
   intro b12 hb12
   dsimp only at hb12
   refine RL.stA rfl rfl ag69.size rfl rfl hcr.len rfl hcr.one ?_
   refine RL.nil ?_
   refine X.seq ?_
   refine X.region rfl ?_
   refine RL.move rfl ?_
   refine RL.fieldAddr rfl fd69_0 rfl ?_
   refine RL.loadOA rfl ag47 rfl (cl_id_own hcr) (gcells_length hci) ?_
   rcases hfi : rfindP (ms.take g) cl.id with _ | p
   ·refine RL.fn0 rfl rfl rfl en18 (fun w hw => ((f_rfind (ms.take g) (fun m hm => hsz m (List.mem_of_mem_take hm)) (by rw [List.length_take]; omega) cl.id hci b1 delay xs (List.replicate g mv0) w (regG_reads hw hrow (by rw [List.length_replicate]; omega) (fun p hp => List.mem_cons_of_mem _ (List.mem_append_right Lr2 (List.mem_append_left Lst hp)))) (hst.reads hw (fun p hp => by simp [hp]))).mono fun v L h => (by rw [hfi] at h; exact h : v = .tuple #[.int .i64 0, .int .i64 0, .int .i64 8]))) rfl ?_
    rintro _ _ rfl
    refine RL.drop rfl (List.sublist_append_right _ _) ?_
    refine RL.move rfl ?_
    refine RL.extract rfl rfl rfl ?_
    refine RL.extract rfl rfl rfl ?_
    refine RL.extract rfl rfl rfl ?_
    refine RL.assign rfl ?_
    refine RL.assign rfl ?_
    refine RL.assign rfl ?_
    refine RL.nil ?_
    refine X.seq ?_
    refine X.region rfl ?_
    refine RL.move rfl ?_
    refine RL.cmp_f rfl rfl rfl rfl (by show ¬ ((_ : Int) = _); decide) ?_
    refine RL.nil ?_
    refine X.cond_f rfl ?_
    refine X.skip ?_
    refine X.blk ?_
    refine X.region rfl ?_
    refine RL.add rfl rfl rfl (by omega) ?_
    refine RL.move rfl ?_
    refine RL.nil ?_
    refine X.hyp ⟨rfl, k + 1, by omega, _, (by repeat (first | exact sb0 _ | exact sb1 _ | (rw [List.append_nil]; exact sb0 _) | exact sb2 _ _ | exact sb3 _ _ _ | apply sb4 | apply sb5 | apply sb6)), by omega, fun j c hj hcj => by
        rcases Nat.lt_succ_iff_lt_or_eq.1 hj with h3 | rfl
        · exact hf j c h3 hcj
        · rw [hcl1] at hcj; obtain rfl := Option.some.inj hcj; exact hfi, ⟨rfl, rfl, rfl, rfl, rfl, rfl, rfl, rfl, trivial⟩, rfl⟩
   refine RL.fn0 rfl rfl rfl en18 (fun w hw => ((f_rfind (ms.take g) (fun m hm => hsz m (List.mem_of_mem_take hm)) (by rw [List.length_take]; omega) cl.id hci b1 delay xs (List.replicate g mv0) w (regG_reads hw hrow (by rw [List.length_replicate]; omega) (fun p hp => List.mem_cons_of_mem _ (List.mem_append_right Lr2 (List.mem_append_left Lst hp)))) (hst.reads hw (fun p hp => by simp [hp]))).mono fun v L h => (by rw [hfi] at h; exact h : v = .tuple #[.int .i64 ((p.1 : Nat) : Int), .int .i64 ((p.2 : Nat) : Int), .int .i64 0]))) rfl ?_
   rintro _ _ rfl
   refine RL.drop rfl (List.sublist_append_right _ _) ?_
   refine RL.move rfl ?_
   refine RL.extract rfl rfl rfl ?_
   refine RL.extract rfl rfl rfl ?_
   refine RL.extract rfl rfl rfl ?_
   refine RL.assign rfl ?_
   refine RL.assign rfl ?_
   refine RL.assign rfl ?_
   refine RL.nil ?_
   refine X.seq ?_
   refine X.region rfl ?_
   refine RL.move rfl ?_
   refine RL.cmp_t rfl rfl rfl rfl (by show ((_ : Int) = _); rfl) ?_
   refine RL.nil ?_
   refine X.cond_t rfl ?_
   refine X.seq ?_
   refine X.region rfl ?_
   refine RL.assign rfl ?_
   refine RL.assign rfl ?_
   refine RL.nil ?_
   refine X.ret ?_
   refine ret2 rfl ?_
   show _ ∨ _
   have hN : newP ms delay = 13 := newP_hit hd hl hm hq (verM_t hv0 hcl1 hfi)
   exact .inl ⟨by rw [hN]; decide, by rw [hN]⟩
  replace hk : ¬ ((_ : Int) < _) := hk
  have hver : verM ms g m = none := verM_no hv0 (fun j c hcj => hf j c (by have := (List.getElem?_eq_some_iff.1 hcj).1; omega) hcj)
  refine RL.nil ?_
  refine X.seq ?_
  refine X.cond_f rfl ?_
  refine X.exit rfl ?_
  refine X.seq ?_
  refine X.region rfl ?_
  refine RL.move rfl ?_
  refine RL.fn (Lp := []) (Lr := Lr2 ++ (RegG b1 A cp Lr delay xs (List.replicate g mv0) ++ Lst)) rfl rfl rfl en31 (List.Perm.refl _) (fun w1 hw1 => f_decode (encP m) A2 cp2 w1 (row_rd hr2 hw1 (fun p hp => by simp [hp])) hcp2 (by omega) (encP_byt hcb)) rfl ?_
  rintro _ Lz (⟨m9, Am2, cm2, Lm, hdm, rfl, hmo, hsub⟩ | ⟨hdm, rfl⟩)
  rotate_left
  · rw [dec_back hid hv0] at hdm; cases hdm
  obtain rfl : m = m9 := by rw [dec_back hid hv0] at hdm; exact Option.some.inj hdm
  refine RL.drop (L' := Lm ++ (Lr2 ++ (RegG b1 A cp Lr delay xs (List.replicate g mv0) ++ Lst))) rfl (List.Sublist.append hsub (List.Sublist.refl _)) ?_
  refine RL.move rfl ?_
  refine RL.extract rfl rfl rfl ?_
  refine RL.extract rfl rfl rfl ?_
  refine RL.alloc rfl rfl zt30 ?_
  intro b16 hb16
  dsimp only at hb16
  refine RL.stA rfl rfl ag30.size rfl rfl rfl rfl (by simp [Value.oneCell']) ?_
  refine RL.assign rfl ?_
  refine RL.nil ?_
  have hxl : xs.length ≤ 4 := by omega
  refine X.set [.val (.pointer (some ⟨b1, 0, none⟩)), .val (.pointer (some ⟨b1, 0, none⟩)), .val (.pointer (some ⟨b1, 0, none⟩)), .val (.pointer (some ⟨b1, 0 + 0, none⟩)), .val (.slice A xs.length cp), .val (.slice A2 (encP m).length cp2), .val (.agg #[.slice Am2 m.length cm2]), .val (.agg #[.slice A2 (encP m).length cp2, .slice Am2 m.length cm2, .bool false, .int .u32 0, .int .u32 0, .int .u32 0, .int .i64 0]), .any, .any, .any, .val (.pointer (some ⟨b1, 0, none⟩)), .val (.pointer (some ⟨b1, 0 + 0, none⟩)), .any] [[], [], [1], [1, 2], [1, 2, 3], [], [], [5, 6], [5, 6, 7], [5, 6, 7, 8], [1, 2, 3, 4, 5, 6, 7, 8, 9], [0, 1, 2, 3, 4, 5, 6, 7, 8, 9, 10], [0, 1, 2, 3, 4, 5, 6, 7, 8, 9, 10, 11], [0, 1, 2, 3, 4, 5, 6, 7, 8, 9, 10, 11, 12]] (fun D ρ L => (D 8 = false ∧ D 9 = false ∧ D 10 = false ∧ D 13 = false ∧ True ∧ Has ρ [] ∧ L.Perm ((Lr) ++ (([(b1, cel 83 [.slice A xs.length cp, .int .i64 delay])]) ++ ((ents xs (List.replicate g mv0)) ++ ((Lst) ++ (([(b16, cel 30 [.slice Am2 m.length cm2])]) ++ ((Lm) ++ (Lr2)))))))) ∨ (D 8 = true ∧ D 9 = false ∧ D 10 = false ∧ D 13 = false ∧ True ∧ ∃ b20 : Nat, Has ρ [(82, .pointer (some ⟨b20, 0, none⟩))] ∧ L.Perm ((Lr) ++ (([(b1, cel 83 [.slice A xs.length cp, .int .i64 delay])]) ++ ((ents xs (List.replicate g mv0)) ++ ((Lst) ++ (([(b16, cel 30 [.slice Am2 m.length cm2])]) ++ ((Lm) ++ ((Lr2) ++ ([(b20, cel 91 [.slice A2 (encP m).length cp2, .slice Am2 m.length cm2, .bool false, .int .u32 0, .int .u32 0, .int .u32 0, .int .i64 0])]))))))))) ∨ (D 8 = true ∧ D 9 = true ∧ D 10 = false ∧ D 13 = false ∧ True ∧ ∃ b20 : Nat, ∃ b21 : Nat, Has ρ [(82, .pointer (some ⟨b20, 0, none⟩)), (83, .slice (some ⟨b21, 0, none⟩) 1 1)] ∧ L.Perm ((Lr) ++ (([(b1, cel 83 [.slice A xs.length cp, .int .i64 delay])]) ++ ((ents xs (List.replicate g mv0)) ++ ((Lst) ++ (([(b16, cel 30 [.slice Am2 m.length cm2])]) ++ ((Lm) ++ ((Lr2) ++ (([(b20, cel 91 [.slice A2 (encP m).length cp2, .slice Am2 m.length cm2, .bool false, .int .u32 0, .int .u32 0, .int .u32 0, .int .i64 0])]) ++ ([(b21, cel 89 [.pointer (some ⟨b20, 0, none⟩)])])))))))))) ∨ (D 8 = true ∧ D 9 = true ∧ D 10 = true ∧ D 13 = false ∧ True ∧ ∃ b20 : Nat, ∃ b21 : Nat, ∃ A3 : Option Addr, ∃ cp3 : Nat, ∃ Lr3 : List Ent, (RowM (xs ++ [(⟨b20, .slice A2 (encP m).length cp2, .slice Am2 m.length cm2⟩ : Ms)]) A3 cp3 Lr3) ∧ Has ρ [(82, .pointer (some ⟨b20, 0, none⟩)), (83, .slice (some ⟨b21, 0, none⟩) 1 1), (84, .slice A3 (xs ++ [(⟨b20, .slice A2 (encP m).length cp2, .slice Am2 m.length cm2⟩ : Ms)]).length cp3)] ∧ L.Perm ((Lr3) ++ (([(b1, cel 83 [.slice A xs.length cp, .int .i64 delay])]) ++ ((ents xs (List.replicate g mv0)) ++ ((Lst) ++ (([(b16, cel 30 [.slice Am2 m.length cm2])]) ++ ((Lm) ++ ((Lr2) ++ (([(b20, cel 91 [.slice A2 (encP m).length cp2, .slice Am2 m.length cm2, .bool false, .int .u32 0, .int .u32 0, .int .u32 0, .int .i64 0])]) ++ ([(b21, cel 89 [.pointer (some ⟨b20, 0, none⟩)])])))))))))) ∨ (D 8 = true ∧ D 9 = true ∧ D 10 = true ∧ D 13 = true ∧ True ∧ ∃ b20 : Nat, ∃ b21 : Nat, ∃ A3 : Option Addr, ∃ cp3 : Nat, ∃ Lr3 : List Ent, (RowM (xs ++ [(⟨b20, .slice A2 (encP m).length cp2, .slice Am2 m.length cm2⟩ : Ms)]) A3 cp3 Lr3) ∧ Has ρ [(82, .pointer (some ⟨b20, 0, none⟩)), (83, .slice (some ⟨b21, 0, none⟩) 1 1), (84, .slice A3 (xs ++ [(⟨b20, .slice A2 (encP m).length cp2, .slice Am2 m.length cm2⟩ : Ms)]).length cp3)] ∧ L.Perm ((Lr3) ++ (([(b1, cel 83 [.slice A3 (xs ++ [(⟨b20, .slice A2 (encP m).length cp2, .slice Am2 m.length cm2⟩ : Ms)]).length cp3, .int .i64 delay])]) ++ ((ents xs (List.replicate g mv0)) ++ ((Lst) ++ (([(b16, cel 30 [.slice Am2 m.length cm2])]) ++ ((Lm) ++ ((Lr2) ++ (([(b20, cel 91 [.slice A2 (encP m).length cp2, .slice Am2 m.length cm2, .bool false, .int .u32 0, .int .u32 0, .int .u32 0, .int .i64 0])]) ++ ([(b21, cel 89 [.pointer (some ⟨b20, 0, none⟩)])]))))))))))) rfl (by kernel_rfl) (by kernel_rfl) (by kernel_rfl) (by kernel_rfl) (fun D hD => .inl ⟨hD 8, hD 9, hD 10, hD 13, trivial, trivial, (pmm fun _ _ z => by simp only [pm1, pm2, pm3, pm4, pm5, pm6, List.cons_append, List.nil_append] <;> omega)⟩) ⟨?_, ?_, ?_, ?_, ?_, ?_, ?_, ?_, ?_, ?_, ?_, ?_, ?_, ?_, trivial⟩ ?_
  ·intro ρ L D hS
   rcases hS.sp with ⟨e8, e9, e10, e13, -, hρ, hL⟩ | ⟨e8, e9, e10, e13, -, b20, hρ, hL⟩ | ⟨e8, e9, e10, e13, -, b20, b21, hρ, hL⟩ | ⟨e8, e9, e10, e13, -, b20, b21, A3, cp3, Lr3, hp0, hρ, hL⟩ | ⟨e8, e9, e10, e13, -, b20, b21, A3, cp3, Lr3, hp0, hρ, hL⟩
   ·have u6 : ρ 6 = .pointer (some ⟨b1, 0, none⟩) := hS.fix 6 (by decide)
    clear hS hρ
    obtain ⟨base, rfl⟩ := Has.base (ρ := ρ) (l := [(6, .pointer (some ⟨b1, 0, none⟩))]) ⟨u6, trivial⟩
    clear u6
    refine RL.perm rfl hL.symm ?_
    clear hL
    refine RL.move rfl ?_
    refine RL.nil ?_
    exact ⟨rfl, ⟨_, rfl, rfl⟩, .inl ⟨e8, e9, e10, e13, trivial, trivial, List.Perm.refl _⟩⟩
   ·have u6 : ρ 6 = .pointer (some ⟨b1, 0, none⟩) := hS.fix 6 (by decide)
    have u82 : ρ 82 = .pointer (some ⟨b20, 0, none⟩) := hρ.1
    clear hS hρ
    obtain ⟨base, rfl⟩ := Has.base (ρ := ρ) (l := [(6, .pointer (some ⟨b1, 0, none⟩)), (82, .pointer (some ⟨b20, 0, none⟩))]) ⟨u6, u82, trivial⟩
    clear u6 u82
    refine RL.perm rfl hL.symm ?_
    clear hL
    refine RL.move rfl ?_
    refine RL.nil ?_
    exact ⟨rfl, ⟨_, rfl, rfl⟩, .inr (.inl ⟨e8, e9, e10, e13, trivial, b20, ⟨rfl, trivial⟩, List.Perm.refl _⟩)⟩
   ·have u6 : ρ 6 = .pointer (some ⟨b1, 0, none⟩) := hS.fix 6 (by decide)
    have u82 : ρ 82 = .pointer (some ⟨b20, 0, none⟩) := hρ.1
    have u83 : ρ 83 = .slice (some ⟨b21, 0, none⟩) 1 1 := hρ.2.1
    clear hS hρ
    obtain ⟨base, rfl⟩ := Has.base (ρ := ρ) (l := [(6, .pointer (some ⟨b1, 0, none⟩)), (82, .pointer (some ⟨b20, 0, none⟩)), (83, .slice (some ⟨b21, 0, none⟩) 1 1)]) ⟨u6, u82, u83, trivial⟩
    clear u6 u82 u83
    refine RL.perm rfl hL.symm ?_
    clear hL
    refine RL.move rfl ?_
    refine RL.nil ?_
    exact ⟨rfl, ⟨_, rfl, rfl⟩, .inr (.inr (.inl ⟨e8, e9, e10, e13, trivial, b20, b21, ⟨rfl, rfl, trivial⟩, List.Perm.refl _⟩))⟩
   ·have u6 : ρ 6 = .pointer (some ⟨b1, 0, none⟩) := hS.fix 6 (by decide)
    have u82 : ρ 82 = .pointer (some ⟨b20, 0, none⟩) := hρ.1
    have u83 : ρ 83 = .slice (some ⟨b21, 0, none⟩) 1 1 := hρ.2.1
    have u84 : ρ 84 = .slice A3 (xs ++ [(⟨b20, .slice A2 (encP m).length cp2, .slice Am2 m.length cm2⟩ : Ms)]).length cp3 := hρ.2.2.1
    clear hS hρ
    obtain ⟨base, rfl⟩ := Has.base (ρ := ρ) (l := [(6, .pointer (some ⟨b1, 0, none⟩)), (82, .pointer (some ⟨b20, 0, none⟩)), (83, .slice (some ⟨b21, 0, none⟩) 1 1), (84, .slice A3 (xs ++ [(⟨b20, .slice A2 (encP m).length cp2, .slice Am2 m.length cm2⟩ : Ms)]).length cp3)]) ⟨u6, u82, u83, u84, trivial⟩
    clear u6 u82 u83 u84
    refine RL.perm rfl hL.symm ?_
    clear hL
    refine RL.move rfl ?_
    refine RL.nil ?_
    exact ⟨rfl, ⟨_, rfl, rfl⟩, .inr (.inr (.inr (.inl ⟨e8, e9, e10, e13, trivial, b20, b21, A3, cp3, Lr3, hp0, ⟨rfl, rfl, rfl, trivial⟩, List.Perm.refl _⟩)))⟩
   exact hS.hi 13 rfl (by kernel_rfl) e13
  ·intro ρ L D hS
   rcases hS.sp with ⟨e8, e9, e10, e13, -, hρ, hL⟩ | ⟨e8, e9, e10, e13, -, b20, hρ, hL⟩ | ⟨e8, e9, e10, e13, -, b20, b21, hρ, hL⟩ | ⟨e8, e9, e10, e13, -, b20, b21, A3, cp3, Lr3, hp0, hρ, hL⟩ | ⟨e8, e9, e10, e13, -, b20, b21, A3, cp3, Lr3, hp0, hρ, hL⟩
   ·have u6 : ρ 6 = .pointer (some ⟨b1, 0, none⟩) := hS.fix 6 (by decide)
    clear hS hρ
    obtain ⟨base, rfl⟩ := Has.base (ρ := ρ) (l := [(6, .pointer (some ⟨b1, 0, none⟩))]) ⟨u6, trivial⟩
    clear u6
    refine RL.perm rfl hL.symm ?_
    clear hL
    refine RL.move rfl ?_
    refine RL.nil ?_
    exact ⟨rfl, ⟨_, rfl, rfl⟩, .inl ⟨e8, e9, e10, e13, trivial, trivial, List.Perm.refl _⟩⟩
   ·have u6 : ρ 6 = .pointer (some ⟨b1, 0, none⟩) := hS.fix 6 (by decide)
    have u82 : ρ 82 = .pointer (some ⟨b20, 0, none⟩) := hρ.1
    clear hS hρ
    obtain ⟨base, rfl⟩ := Has.base (ρ := ρ) (l := [(6, .pointer (some ⟨b1, 0, none⟩)), (82, .pointer (some ⟨b20, 0, none⟩))]) ⟨u6, u82, trivial⟩
    clear u6 u82
    refine RL.perm rfl hL.symm ?_
    clear hL
    refine RL.move rfl ?_
    refine RL.nil ?_
    exact ⟨rfl, ⟨_, rfl, rfl⟩, .inr (.inl ⟨e8, e9, e10, e13, trivial, b20, ⟨rfl, trivial⟩, List.Perm.refl _⟩)⟩
   ·have u6 : ρ 6 = .pointer (some ⟨b1, 0, none⟩) := hS.fix 6 (by decide)
    have u82 : ρ 82 = .pointer (some ⟨b20, 0, none⟩) := hρ.1
    have u83 : ρ 83 = .slice (some ⟨b21, 0, none⟩) 1 1 := hρ.2.1
    clear hS hρ
    obtain ⟨base, rfl⟩ := Has.base (ρ := ρ) (l := [(6, .pointer (some ⟨b1, 0, none⟩)), (82, .pointer (some ⟨b20, 0, none⟩)), (83, .slice (some ⟨b21, 0, none⟩) 1 1)]) ⟨u6, u82, u83, trivial⟩
    clear u6 u82 u83
    refine RL.perm rfl hL.symm ?_
    clear hL
    refine RL.move rfl ?_
    refine RL.nil ?_
    exact ⟨rfl, ⟨_, rfl, rfl⟩, .inr (.inr (.inl ⟨e8, e9, e10, e13, trivial, b20, b21, ⟨rfl, rfl, trivial⟩, List.Perm.refl _⟩))⟩
   ·exact hS.hi 10 rfl (by kernel_rfl) e10
   exact hS.hi 10 rfl (by kernel_rfl) e10
  ·intro ρ L D hS
   rcases hS.sp with ⟨e8, e9, e10, e13, -, hρ, hL⟩ | ⟨e8, e9, e10, e13, -, b20, hρ, hL⟩ | ⟨e8, e9, e10, e13, -, b20, b21, hρ, hL⟩ | ⟨e8, e9, e10, e13, -, b20, b21, A3, cp3, Lr3, hp0, hρ, hL⟩ | ⟨e8, e9, e10, e13, -, b20, b21, A3, cp3, Lr3, hp0, hρ, hL⟩
   ·have u75 : ρ 75 = .pointer (some ⟨b1, 0, none⟩) := hS.dep ⟨1, Ground.data⟩ (by simp) rfl _ _ rfl rfl
    clear hS hρ
    obtain ⟨base, rfl⟩ := Has.base (ρ := ρ) (l := [(75, .pointer (some ⟨b1, 0, none⟩))]) ⟨u75, trivial⟩
    clear u75
    refine RL.perm rfl hL.symm ?_
    clear hL
    refine RL.nilCheck rfl rfl ?_
    refine RL.nil ?_
    exact ⟨rfl, ⟨_, rfl, rfl⟩, .inl ⟨e8, e9, e10, e13, trivial, trivial, List.Perm.refl _⟩⟩
   ·have u75 : ρ 75 = .pointer (some ⟨b1, 0, none⟩) := hS.dep ⟨1, Ground.data⟩ (by simp) rfl _ _ rfl rfl
    have u82 : ρ 82 = .pointer (some ⟨b20, 0, none⟩) := hρ.1
    clear hS hρ
    obtain ⟨base, rfl⟩ := Has.base (ρ := ρ) (l := [(75, .pointer (some ⟨b1, 0, none⟩)), (82, .pointer (some ⟨b20, 0, none⟩))]) ⟨u75, u82, trivial⟩
    clear u75 u82
    refine RL.perm rfl hL.symm ?_
    clear hL
    refine RL.nilCheck rfl rfl ?_
    refine RL.nil ?_
    exact ⟨rfl, ⟨_, rfl, rfl⟩, .inr (.inl ⟨e8, e9, e10, e13, trivial, b20, ⟨rfl, trivial⟩, List.Perm.refl _⟩)⟩
   ·have u75 : ρ 75 = .pointer (some ⟨b1, 0, none⟩) := hS.dep ⟨1, Ground.data⟩ (by simp) rfl _ _ rfl rfl
    have u82 : ρ 82 = .pointer (some ⟨b20, 0, none⟩) := hρ.1
    have u83 : ρ 83 = .slice (some ⟨b21, 0, none⟩) 1 1 := hρ.2.1
    clear hS hρ
    obtain ⟨base, rfl⟩ := Has.base (ρ := ρ) (l := [(75, .pointer (some ⟨b1, 0, none⟩)), (82, .pointer (some ⟨b20, 0, none⟩)), (83, .slice (some ⟨b21, 0, none⟩) 1 1)]) ⟨u75, u82, u83, trivial⟩
    clear u75 u82 u83
    refine RL.perm rfl hL.symm ?_
    clear hL
    refine RL.nilCheck rfl rfl ?_
    refine RL.nil ?_
    exact ⟨rfl, ⟨_, rfl, rfl⟩, .inr (.inr (.inl ⟨e8, e9, e10, e13, trivial, b20, b21, ⟨rfl, rfl, trivial⟩, List.Perm.refl _⟩))⟩
   ·exact hS.hi 10 rfl (by kernel_rfl) e10
   exact hS.hi 10 rfl (by kernel_rfl) e10
  ·intro ρ L D hS
   rcases hS.sp with ⟨e8, e9, e10, e13, -, hρ, hL⟩ | ⟨e8, e9, e10, e13, -, b20, hρ, hL⟩ | ⟨e8, e9, e10, e13, -, b20, b21, hρ, hL⟩ | ⟨e8, e9, e10, e13, -, b20, b21, A3, cp3, Lr3, hp0, hρ, hL⟩ | ⟨e8, e9, e10, e13, -, b20, b21, A3, cp3, Lr3, hp0, hρ, hL⟩
   ·have u76 : ρ 76 = .pointer (some ⟨b1, 0, none⟩) := hS.dep ⟨2, Ground.data⟩ (by simp) rfl _ _ rfl rfl
    clear hS hρ
    obtain ⟨base, rfl⟩ := Has.base (ρ := ρ) (l := [(76, .pointer (some ⟨b1, 0, none⟩))]) ⟨u76, trivial⟩
    clear u76
    refine RL.perm rfl hL.symm ?_
    clear hL
    refine RL.fieldAddr rfl fd83_0 rfl ?_
    refine RL.nil ?_
    exact ⟨rfl, ⟨_, rfl, rfl⟩, .inl ⟨e8, e9, e10, e13, trivial, trivial, List.Perm.refl _⟩⟩
   ·have u76 : ρ 76 = .pointer (some ⟨b1, 0, none⟩) := hS.dep ⟨2, Ground.data⟩ (by simp) rfl _ _ rfl rfl
    have u82 : ρ 82 = .pointer (some ⟨b20, 0, none⟩) := hρ.1
    clear hS hρ
    obtain ⟨base, rfl⟩ := Has.base (ρ := ρ) (l := [(76, .pointer (some ⟨b1, 0, none⟩)), (82, .pointer (some ⟨b20, 0, none⟩))]) ⟨u76, u82, trivial⟩
    clear u76 u82
    refine RL.perm rfl hL.symm ?_
    clear hL
    refine RL.fieldAddr rfl fd83_0 rfl ?_
    refine RL.nil ?_
    exact ⟨rfl, ⟨_, rfl, rfl⟩, .inr (.inl ⟨e8, e9, e10, e13, trivial, b20, ⟨rfl, trivial⟩, List.Perm.refl _⟩)⟩
   ·have u76 : ρ 76 = .pointer (some ⟨b1, 0, none⟩) := hS.dep ⟨2, Ground.data⟩ (by simp) rfl _ _ rfl rfl
    have u82 : ρ 82 = .pointer (some ⟨b20, 0, none⟩) := hρ.1
    have u83 : ρ 83 = .slice (some ⟨b21, 0, none⟩) 1 1 := hρ.2.1
    clear hS hρ
    obtain ⟨base, rfl⟩ := Has.base (ρ := ρ) (l := [(76, .pointer (some ⟨b1, 0, none⟩)), (82, .pointer (some ⟨b20, 0, none⟩)), (83, .slice (some ⟨b21, 0, none⟩) 1 1)]) ⟨u76, u82, u83, trivial⟩
    clear u76 u82 u83
    refine RL.perm rfl hL.symm ?_
    clear hL
    refine RL.fieldAddr rfl fd83_0 rfl ?_
    refine RL.nil ?_
    exact ⟨rfl, ⟨_, rfl, rfl⟩, .inr (.inr (.inl ⟨e8, e9, e10, e13, trivial, b20, b21, ⟨rfl, rfl, trivial⟩, List.Perm.refl _⟩))⟩
   ·exact hS.hi 10 rfl (by kernel_rfl) e10
   exact hS.hi 10 rfl (by kernel_rfl) e10
  ·intro ρ L D hS
   rcases hS.sp with ⟨e8, e9, e10, e13, -, hρ, hL⟩ | ⟨e8, e9, e10, e13, -, b20, hρ, hL⟩ | ⟨e8, e9, e10, e13, -, b20, b21, hρ, hL⟩ | ⟨e8, e9, e10, e13, -, b20, b21, A3, cp3, Lr3, hp0, hρ, hL⟩ | ⟨e8, e9, e10, e13, -, b20, b21, A3, cp3, Lr3, hp0, hρ, hL⟩
   ·have u77 : ρ 77 = .pointer (some ⟨b1, 0 + 0, none⟩) := hS.dep ⟨3, Ground.data⟩ (by simp) rfl _ _ rfl rfl
    clear hS hρ
    obtain ⟨base, rfl⟩ := Has.base (ρ := ρ) (l := [(77, .pointer (some ⟨b1, 0 + 0, none⟩))]) ⟨u77, trivial⟩
    clear u77
    refine RL.perm rfl hL.symm ?_
    clear hL
    refine RL.loadO rfl sc81 rfl rfl ?_
    refine RL.nil ?_
    exact ⟨rfl, ⟨_, rfl, rfl⟩, .inl ⟨e8, e9, e10, e13, trivial, trivial, List.Perm.refl _⟩⟩
   ·have u77 : ρ 77 = .pointer (some ⟨b1, 0 + 0, none⟩) := hS.dep ⟨3, Ground.data⟩ (by simp) rfl _ _ rfl rfl
    have u82 : ρ 82 = .pointer (some ⟨b20, 0, none⟩) := hρ.1
    clear hS hρ
    obtain ⟨base, rfl⟩ := Has.base (ρ := ρ) (l := [(77, .pointer (some ⟨b1, 0 + 0, none⟩)), (82, .pointer (some ⟨b20, 0, none⟩))]) ⟨u77, u82, trivial⟩
    clear u77 u82
    refine RL.perm rfl hL.symm ?_
    clear hL
    refine RL.loadO rfl sc81 rfl rfl ?_
    refine RL.nil ?_
    exact ⟨rfl, ⟨_, rfl, rfl⟩, .inr (.inl ⟨e8, e9, e10, e13, trivial, b20, ⟨rfl, trivial⟩, List.Perm.refl _⟩)⟩
   ·have u77 : ρ 77 = .pointer (some ⟨b1, 0 + 0, none⟩) := hS.dep ⟨3, Ground.data⟩ (by simp) rfl _ _ rfl rfl
    have u82 : ρ 82 = .pointer (some ⟨b20, 0, none⟩) := hρ.1
    have u83 : ρ 83 = .slice (some ⟨b21, 0, none⟩) 1 1 := hρ.2.1
    clear hS hρ
    obtain ⟨base, rfl⟩ := Has.base (ρ := ρ) (l := [(77, .pointer (some ⟨b1, 0 + 0, none⟩)), (82, .pointer (some ⟨b20, 0, none⟩)), (83, .slice (some ⟨b21, 0, none⟩) 1 1)]) ⟨u77, u82, u83, trivial⟩
    clear u77 u82 u83
    refine RL.perm rfl hL.symm ?_
    clear hL
    refine RL.loadO rfl sc81 rfl rfl ?_
    refine RL.nil ?_
    exact ⟨rfl, ⟨_, rfl, rfl⟩, .inr (.inr (.inl ⟨e8, e9, e10, e13, trivial, b20, b21, ⟨rfl, rfl, trivial⟩, List.Perm.refl _⟩))⟩
   ·exact hS.hi 10 rfl (by kernel_rfl) e10
   exact hS.hi 10 rfl (by kernel_rfl) e10
  ·intro ρ L D hS
   rcases hS.sp with ⟨e8, e9, e10, e13, -, hρ, hL⟩ | ⟨e8, e9, e10, e13, -, b20, hρ, hL⟩ | ⟨e8, e9, e10, e13, -, b20, b21, hρ, hL⟩ | ⟨e8, e9, e10, e13, -, b20, b21, A3, cp3, Lr3, hp0, hρ, hL⟩ | ⟨e8, e9, e10, e13, -, b20, b21, A3, cp3, Lr3, hp0, hρ, hL⟩
   ·have u9 : ρ 9 = .slice A2 (encP m).length cp2 := hS.fix 9 (by decide)
    clear hS hρ
    obtain ⟨base, rfl⟩ := Has.base (ρ := ρ) (l := [(9, .slice A2 (encP m).length cp2)]) ⟨u9, trivial⟩
    clear u9
    refine RL.perm rfl hL.symm ?_
    clear hL
    refine RL.move rfl ?_
    refine RL.nil ?_
    exact ⟨rfl, ⟨_, rfl, rfl⟩, .inl ⟨e8, e9, e10, e13, trivial, trivial, List.Perm.refl _⟩⟩
   ·exact hS.hi 8 rfl (by kernel_rfl) e8
   ·exact hS.hi 8 rfl (by kernel_rfl) e8
   ·exact hS.hi 8 rfl (by kernel_rfl) e8
   exact hS.hi 8 rfl (by kernel_rfl) e8
  ·intro ρ L D hS
   rcases hS.sp with ⟨e8, e9, e10, e13, -, hρ, hL⟩ | ⟨e8, e9, e10, e13, -, b20, hρ, hL⟩ | ⟨e8, e9, e10, e13, -, b20, b21, hρ, hL⟩ | ⟨e8, e9, e10, e13, -, b20, b21, A3, cp3, Lr3, hp0, hρ, hL⟩ | ⟨e8, e9, e10, e13, -, b20, b21, A3, cp3, Lr3, hp0, hρ, hL⟩
   ·have u16 : ρ 16 = .pointer (some ⟨b16, 0, none⟩) := hS.fix 16 (by decide)
    clear hS hρ
    obtain ⟨base, rfl⟩ := Has.base (ρ := ρ) (l := [(16, .pointer (some ⟨b16, 0, none⟩))]) ⟨u16, trivial⟩
    clear u16
    refine RL.perm rfl hL.symm ?_
    clear hL
    refine RL.loadOA rfl ag30 rfl (show List.take 1 (List.drop 0 [.slice Am2 m.length cm2]) = [.slice Am2 m.length cm2] from rfl) rfl ?_
    refine RL.nil ?_
    exact ⟨rfl, ⟨_, rfl, rfl⟩, .inl ⟨e8, e9, e10, e13, trivial, trivial, List.Perm.refl _⟩⟩
   ·exact hS.hi 8 rfl (by kernel_rfl) e8
   ·exact hS.hi 8 rfl (by kernel_rfl) e8
   ·exact hS.hi 8 rfl (by kernel_rfl) e8
   exact hS.hi 8 rfl (by kernel_rfl) e8
  ·intro ρ L D hS
   rcases hS.sp with ⟨e8, e9, e10, e13, -, hρ, hL⟩ | ⟨e8, e9, e10, e13, -, b20, hρ, hL⟩ | ⟨e8, e9, e10, e13, -, b20, b21, hρ, hL⟩ | ⟨e8, e9, e10, e13, -, b20, b21, A3, cp3, Lr3, hp0, hρ, hL⟩ | ⟨e8, e9, e10, e13, -, b20, b21, A3, cp3, Lr3, hp0, hρ, hL⟩
   ·have u79 : ρ 79 = .slice A2 (encP m).length cp2 := hS.dep ⟨5, Ground.data⟩ (by simp) rfl _ _ rfl rfl
    have u80 : ρ 80 = .agg #[.slice Am2 m.length cm2] := hS.dep ⟨6, Ground.data⟩ (by simp) rfl _ _ rfl rfl
    clear hS hρ
    obtain ⟨base, rfl⟩ := Has.base (ρ := ρ) (l := [(79, .slice A2 (encP m).length cp2), (80, .agg #[.slice Am2 m.length cm2])]) ⟨u79, u80, trivial⟩
    clear u79 u80
    refine RL.perm rfl hL.symm ?_
    clear hL
    refine RL.bldC (vs := [(0, .slice A2 (encP m).length cp2), (1, .agg #[.slice Am2 m.length cm2])]) (cells := [.slice A2 (encP m).length cp2, .slice Am2 m.length cm2, .bool false, .int .u32 0, .int .u32 0, .int .u32 0, .int .i64 0]) rfl rfl (fun w => by kernel_rfl) ?_
    refine RL.nil ?_
    exact ⟨rfl, ⟨_, rfl, rfl⟩, .inl ⟨e8, e9, e10, e13, trivial, trivial, List.Perm.refl _⟩⟩
   ·exact hS.hi 8 rfl (by kernel_rfl) e8
   ·exact hS.hi 8 rfl (by kernel_rfl) e8
   ·exact hS.hi 8 rfl (by kernel_rfl) e8
   exact hS.hi 8 rfl (by kernel_rfl) e8
  ·intro ρ L D hS
   rcases hS.sp with ⟨e8, e9, e10, e13, -, hρ, hL⟩ | ⟨e8, e9, e10, e13, -, b20, hρ, hL⟩ | ⟨e8, e9, e10, e13, -, b20, b21, hρ, hL⟩ | ⟨e8, e9, e10, e13, -, b20, b21, A3, cp3, Lr3, hp0, hρ, hL⟩ | ⟨e8, e9, e10, e13, -, b20, b21, A3, cp3, Lr3, hp0, hρ, hL⟩
   ·have u81 : ρ 81 = .agg #[.slice A2 (encP m).length cp2, .slice Am2 m.length cm2, .bool false, .int .u32 0, .int .u32 0, .int .u32 0, .int .i64 0] := hS.dep ⟨7, Ground.data⟩ (by simp) rfl _ _ rfl rfl
    clear hS hρ
    obtain ⟨base, rfl⟩ := Has.base (ρ := ρ) (l := [(81, .agg #[.slice A2 (encP m).length cp2, .slice Am2 m.length cm2, .bool false, .int .u32 0, .int .u32 0, .int .u32 0, .int .i64 0])]) ⟨u81, trivial⟩
    clear u81
    refine RL.perm rfl hL.symm ?_
    clear hL
    refine RL.boxA rfl rfl rfl ?_
    intro b20 hb20
    refine RL.nil ?_
    exact ⟨rfl, ⟨_, rfl, trivial⟩, .inr (.inl ⟨rfl, e9, e10, e13, trivial, b20, ⟨rfl, trivial⟩, (pmm fun _ _ z => by simp only [pm1, pm2, pm3, pm4, pm5, pm6, List.cons_append, List.nil_append] <;> omega)⟩)⟩
   ·exact hS.me e8
   ·exact hS.hi 9 rfl (by kernel_rfl) e9
   ·exact hS.hi 9 rfl (by kernel_rfl) e9
   exact hS.hi 9 rfl (by kernel_rfl) e9
  ·intro ρ L D hS
   rcases hS.sp with ⟨e8, e9, e10, e13, -, hρ, hL⟩ | ⟨e8, e9, e10, e13, -, b20, hρ, hL⟩ | ⟨e8, e9, e10, e13, -, b20, b21, hρ, hL⟩ | ⟨e8, e9, e10, e13, -, b20, b21, A3, cp3, Lr3, hp0, hρ, hL⟩ | ⟨e8, e9, e10, e13, -, b20, b21, A3, cp3, Lr3, hp0, hρ, hL⟩
   ·exact hS.lo 8 (by kernel_rfl) e8
   ·have u82 : ρ 82 = .pointer (some ⟨b20, 0, none⟩) := hρ.1
    clear hS hρ
    obtain ⟨base, rfl⟩ := Has.base (ρ := ρ) (l := [(82, .pointer (some ⟨b20, 0, none⟩))]) ⟨u82, trivial⟩
    clear u82
    refine RL.perm rfl hL.symm ?_
    clear hL
    refine RL.bs1 (l := [.pointer (some ⟨b20, 0, none⟩)]) rfl rfl sl81 zt89 rfl rfl rfl (by decide) ?_
    intro b21 hb21
    refine RL.nil ?_
    exact ⟨rfl, ⟨_, rfl, trivial⟩, .inr (.inr (.inl ⟨e8, rfl, e10, e13, trivial, b20, b21, ⟨rfl, rfl, trivial⟩, (pmm fun _ _ z => by simp only [pm1, pm2, pm3, pm4, pm5, pm6, List.cons_append, List.nil_append] <;> omega)⟩))⟩
   ·exact hS.me e9
   ·exact hS.hi 10 rfl (by kernel_rfl) e10
   exact hS.hi 10 rfl (by kernel_rfl) e10
  ·intro ρ L D hS
   rcases hS.sp with ⟨e8, e9, e10, e13, -, hρ, hL⟩ | ⟨e8, e9, e10, e13, -, b20, hρ, hL⟩ | ⟨e8, e9, e10, e13, -, b20, b21, hρ, hL⟩ | ⟨e8, e9, e10, e13, -, b20, b21, A3, cp3, Lr3, hp0, hρ, hL⟩ | ⟨e8, e9, e10, e13, -, b20, b21, A3, cp3, Lr3, hp0, hρ, hL⟩
   ·exact hS.lo 8 (by kernel_rfl) e8
   ·exact hS.lo 9 (by kernel_rfl) e9
   ·have u78 : ρ 78 = .slice A xs.length cp := hS.dep ⟨4, Ground.data⟩ (by simp) rfl _ _ rfl rfl
    have u82 : ρ 82 = .pointer (some ⟨b20, 0, none⟩) := hρ.1
    have u83 : ρ 83 = .slice (some ⟨b21, 0, none⟩) 1 1 := hρ.2.1
    clear hS hρ
    obtain ⟨base, rfl⟩ := Has.base (ρ := ρ) (l := [(78, .slice A xs.length cp), (82, .pointer (some ⟨b20, 0, none⟩)), (83, .slice (some ⟨b21, 0, none⟩) 1 1)]) ⟨u78, u82, u83, trivial⟩
    clear u78 u82 u83
    refine RL.perm rfl hL.symm ?_
    clear hL
    refine RL.appB (Lr := Lr) (xs := ptrs xs) (ys := [.pointer (some ⟨b20, 0, none⟩)]) (N := (xs ++ [(⟨b20, .slice A2 (encP m).length cp2, .slice Am2 m.length cm2⟩ : Ms)]).length) rfl rfl sl81 el_ptr (by decide) (by decide) Try.underlying81 rfl hrow rfl (List.Perm.refl _) (by simp) rfl (by simp [Value.oneCell']) (by omega) (by simp) ?_
    intro A3 cp3 Lr3 hr3
    rw [show ptrs xs ++ [.pointer (some ⟨b20, 0, none⟩)] = ptrs (xs ++ [(⟨b20, .slice A2 (encP m).length cp2, .slice Am2 m.length cm2⟩ : Ms)]) by simp [ptrs]] at hr3
    refine RL.nil ?_
    exact ⟨rfl, ⟨_, rfl, trivial⟩, .inr (.inr (.inr (.inl ⟨e8, e9, rfl, e13, trivial, b20, b21, A3, cp3, Lr3, hr3, ⟨rfl, rfl, rfl, trivial⟩, (pmm fun _ _ z => by simp only [pm1, pm2, pm3, pm4, pm5, pm6, List.cons_append, List.nil_append] <;> omega)⟩)))⟩
   ·exact hS.me e10
   exact hS.hi 13 rfl (by kernel_rfl) e13
  ·intro ρ L D hS
   rcases hS.sp with ⟨e8, e9, e10, e13, -, hρ, hL⟩ | ⟨e8, e9, e10, e13, -, b20, hρ, hL⟩ | ⟨e8, e9, e10, e13, -, b20, b21, hρ, hL⟩ | ⟨e8, e9, e10, e13, -, b20, b21, A3, cp3, Lr3, hp0, hρ, hL⟩ | ⟨e8, e9, e10, e13, -, b20, b21, A3, cp3, Lr3, hp0, hρ, hL⟩
   ·exact hS.lo 8 (by kernel_rfl) e8
   ·exact hS.lo 9 (by kernel_rfl) e9
   ·exact hS.lo 10 (by kernel_rfl) e10
   ·have u74 : ρ 74 = .pointer (some ⟨b1, 0, none⟩) := hS.dep ⟨0, Ground.data⟩ (by simp) rfl _ _ rfl rfl
    have u82 : ρ 82 = .pointer (some ⟨b20, 0, none⟩) := hρ.1
    have u83 : ρ 83 = .slice (some ⟨b21, 0, none⟩) 1 1 := hρ.2.1
    have u84 : ρ 84 = .slice A3 (xs ++ [(⟨b20, .slice A2 (encP m).length cp2, .slice Am2 m.length cm2⟩ : Ms)]).length cp3 := hρ.2.2.1
    clear hS hρ
    obtain ⟨base, rfl⟩ := Has.base (ρ := ρ) (l := [(74, .pointer (some ⟨b1, 0, none⟩)), (82, .pointer (some ⟨b20, 0, none⟩)), (83, .slice (some ⟨b21, 0, none⟩) 1 1), (84, .slice A3 (xs ++ [(⟨b20, .slice A2 (encP m).length cp2, .slice Am2 m.length cm2⟩ : Ms)]).length cp3)]) ⟨u74, u82, u83, u84, trivial⟩
    clear u74 u82 u83 u84
    refine RL.perm rfl hL.symm ?_
    clear hL
    refine RL.nilCheck rfl rfl ?_
    refine RL.nil ?_
    exact ⟨rfl, ⟨_, rfl, rfl⟩, .inr (.inr (.inr (.inl ⟨e8, e9, e10, e13, trivial, b20, b21, A3, cp3, Lr3, hp0, ⟨rfl, rfl, rfl, trivial⟩, List.Perm.refl _⟩)))⟩
   exact hS.hi 13 rfl (by kernel_rfl) e13
  ·intro ρ L D hS
   rcases hS.sp with ⟨e8, e9, e10, e13, -, hρ, hL⟩ | ⟨e8, e9, e10, e13, -, b20, hρ, hL⟩ | ⟨e8, e9, e10, e13, -, b20, b21, hρ, hL⟩ | ⟨e8, e9, e10, e13, -, b20, b21, A3, cp3, Lr3, hp0, hρ, hL⟩ | ⟨e8, e9, e10, e13, -, b20, b21, A3, cp3, Lr3, hp0, hρ, hL⟩
   ·exact hS.lo 8 (by kernel_rfl) e8
   ·exact hS.lo 9 (by kernel_rfl) e9
   ·exact hS.lo 10 (by kernel_rfl) e10
   ·have u82 : ρ 82 = .pointer (some ⟨b20, 0, none⟩) := hρ.1
    have u83 : ρ 83 = .slice (some ⟨b21, 0, none⟩) 1 1 := hρ.2.1
    have u84 : ρ 84 = .slice A3 (xs ++ [(⟨b20, .slice A2 (encP m).length cp2, .slice Am2 m.length cm2⟩ : Ms)]).length cp3 := hρ.2.2.1
    have u85 : ρ 85 = .pointer (some ⟨b1, 0, none⟩) := hS.dep ⟨11, Ground.data⟩ (by simp) rfl _ _ rfl rfl
    clear hS hρ
    obtain ⟨base, rfl⟩ := Has.base (ρ := ρ) (l := [(82, .pointer (some ⟨b20, 0, none⟩)), (83, .slice (some ⟨b21, 0, none⟩) 1 1), (84, .slice A3 (xs ++ [(⟨b20, .slice A2 (encP m).length cp2, .slice Am2 m.length cm2⟩ : Ms)]).length cp3), (85, .pointer (some ⟨b1, 0, none⟩))]) ⟨u82, u83, u84, u85, trivial⟩
    clear u82 u83 u84 u85
    refine RL.perm rfl hL.symm ?_
    clear hL
    refine RL.fieldAddr rfl fd83_0 rfl ?_
    refine RL.nil ?_
    exact ⟨rfl, ⟨_, rfl, rfl⟩, .inr (.inr (.inr (.inl ⟨e8, e9, e10, e13, trivial, b20, b21, A3, cp3, Lr3, hp0, ⟨rfl, rfl, rfl, trivial⟩, List.Perm.refl _⟩)))⟩
   exact hS.hi 13 rfl (by kernel_rfl) e13
  ·intro ρ L D hS
   rcases hS.sp with ⟨e8, e9, e10, e13, -, hρ, hL⟩ | ⟨e8, e9, e10, e13, -, b20, hρ, hL⟩ | ⟨e8, e9, e10, e13, -, b20, b21, hρ, hL⟩ | ⟨e8, e9, e10, e13, -, b20, b21, A3, cp3, Lr3, hp0, hρ, hL⟩ | ⟨e8, e9, e10, e13, -, b20, b21, A3, cp3, Lr3, hp0, hρ, hL⟩
   ·exact hS.lo 8 (by kernel_rfl) e8
   ·exact hS.lo 9 (by kernel_rfl) e9
   ·exact hS.lo 10 (by kernel_rfl) e10
   ·have u82 : ρ 82 = .pointer (some ⟨b20, 0, none⟩) := hρ.1
    have u83 : ρ 83 = .slice (some ⟨b21, 0, none⟩) 1 1 := hρ.2.1
    have u84 : ρ 84 = .slice A3 (xs ++ [(⟨b20, .slice A2 (encP m).length cp2, .slice Am2 m.length cm2⟩ : Ms)]).length cp3 := hρ.2.2.1
    have u86 : ρ 86 = .pointer (some ⟨b1, 0 + 0, none⟩) := hS.dep ⟨12, Ground.data⟩ (by simp) rfl _ _ rfl rfl
    clear hS hρ
    obtain ⟨base, rfl⟩ := Has.base (ρ := ρ) (l := [(82, .pointer (some ⟨b20, 0, none⟩)), (83, .slice (some ⟨b21, 0, none⟩) 1 1), (84, .slice A3 (xs ++ [(⟨b20, .slice A2 (encP m).length cp2, .slice Am2 m.length cm2⟩ : Ms)]).length cp3), (86, .pointer (some ⟨b1, 0 + 0, none⟩))]) ⟨u82, u83, u84, u86, trivial⟩
    clear u82 u83 u84 u86
    refine RL.perm rfl hL.symm ?_
    clear hL
    refine RL.stS rfl rfl sc81.size rfl rfl (by simp) ?_
    refine RL.nil ?_
    exact ⟨rfl, ⟨_, rfl, trivial⟩, .inr (.inr (.inr (.inr (⟨e8, e9, e10, rfl, trivial, b20, b21, A3, cp3, Lr3, hp0, ⟨rfl, rfl, rfl, trivial⟩, (pmm fun _ _ z => by simp only [pm1, pm2, pm3, pm4, pm5, pm6, List.cons_append, List.nil_append] <;> omega)⟩))))⟩
   exact hS.me e13
  intro ρ L D hD hT hfix hsp
  rcases hsp with ⟨e8, e9, e10, e13, -, hρ, hL⟩ | ⟨e8, e9, e10, e13, -, b20, hρ, hL⟩ | ⟨e8, e9, e10, e13, -, b20, b21, hρ, hL⟩ | ⟨e8, e9, e10, e13, -, b20, b21, A3, cp3, Lr3, hp0, hρ, hL⟩ | ⟨e8, e9, e10, e13, -, b20, b21, A3, cp3, Lr3, hp0, hρ, hL⟩
  ·exact done_no hD 8 rfl e8
  ·exact done_no hD 9 rfl e9
  ·exact done_no hD 10 rfl e10
  ·exact done_no hD 13 rfl e13
  have u6 : ρ 6 = .pointer (some ⟨b1, 0, none⟩) := hfix 6 (by decide)
  have u37 : ρ 37 = .slice A0 ms.length c0 := hfix 37 (by decide)
  have u38 : ρ 38 = .int .i64 ms.length := hfix 38 (by decide)
  have u39 : ρ 39 = .int .i64 g := hfix 39 (by decide)
  have u82 : ρ 82 = .pointer (some ⟨b20, 0, none⟩) := hρ.1
  have u83 : ρ 83 = .slice (some ⟨b21, 0, none⟩) 1 1 := hρ.2.1
  have u84 : ρ 84 = .slice A3 (xs ++ [(⟨b20, .slice A2 (encP m).length cp2, .slice Am2 m.length cm2⟩ : Ms)]).length cp3 := hρ.2.2.1
  clear hT hfix hD hρ
  obtain ⟨base, rfl⟩ := Has.base (ρ := ρ) (l := [(6, .pointer (some ⟨b1, 0, none⟩)), (37, .slice A0 ms.length c0), (38, .int .i64 ms.length), (39, .int .i64 g), (82, .pointer (some ⟨b20, 0, none⟩)), (83, .slice (some ⟨b21, 0, none⟩) 1 1), (84, .slice A3 (xs ++ [(⟨b20, .slice A2 (encP m).length cp2, .slice Am2 m.length cm2⟩ : Ms)]).length cp3)]) ⟨u6, u37, u38, u39, u82, u83, u84, trivial⟩
  clear u6 u37 u38 u39 u82 u83 u84
  refine ⟨_, hL.symm, ((Lr3) ++ (([(b1, cel 83 [.slice A3 (xs ++ [(⟨b20, .slice A2 (encP m).length cp2, .slice Am2 m.length cm2⟩ : Ms)]).length cp3, .int .i64 delay])]) ++ ((ents xs (List.replicate g mv0)) ++ ((Lst) ++ ((Lm) ++ ((Lr2) ++ ([(b20, cel 91 [.slice A2 (encP m).length cp2, .slice Am2 m.length cm2, .bool false, .int .u32 0, .int .u32 0, .int .u32 0, .int .i64 0])]))))))), List.Sublist.append (List.Sublist.refl _) (List.Sublist.append (List.Sublist.refl _) (List.Sublist.append (List.Sublist.refl _) (List.Sublist.append (List.Sublist.refl _) ((List.Sublist.append (List.Sublist.refl _) (List.Sublist.append (List.Sublist.refl _) (List.sublist_append_left _ _))).trans (List.sublist_append_right _ _))))), ?_⟩
  refine X.blk ?_
  refine X.region rfl ?_
  have he : ents (xs ++ [(⟨b20, .slice A2 (encP m).length cp2, .slice Am2 m.length cm2⟩ : Ms)]) (List.replicate (g + 1) mv0) = ents xs (List.replicate g mv0) ++ [(b20, cel 91 [.slice A2 (encP m).length cp2, .slice Am2 m.length cm2, .bool false, .int .u32 0, .int .u32 0, .int .u32 0, .int .i64 0])] := by
    rw [List.replicate_succ', ents_app _ _ _ _ (by rw [List.length_replicate]; exact hxg)]; rfl
  refine RL.perm (L' := ((b1, cel 83 [.slice A3 (xs ++ [(⟨b20, .slice A2 (encP m).length cp2, .slice Am2 m.length cm2⟩ : Ms)]).length cp3, .int .i64 delay]) :: (Lr3 ++ (ents xs (List.replicate g mv0) ++ [(b20, cel 91 [.slice A2 (encP m).length cp2, .slice Am2 m.length cm2, .bool false, .int .u32 0, .int .u32 0, .int .u32 0, .int .i64 0])]))) ++ (Lst ++ (Lr2 ++ Lm))) rfl (by classical exact List.perm_iff_count.2 (fun z => by simp only [List.count_append, List.count_cons, List.count_nil, List.cons_append, List.nil_append, List.set_cons_zero, List.set_cons_succ] <;> omega)) ?_
  refine RL.add rfl rfl rfl (by omega) ?_
  refine RL.move rfl ?_
  refine RL.nil ?_
  refine X.hyp ⟨rfl, g + 1, by omega, _, (by unfold RegG; rw [he]; exact List.Sublist.refl _), A3, cp3, Lr3, (xs ++ [(⟨b20, .slice A2 (encP m).length cp2, .slice Am2 m.length cm2⟩ : Ms)]), Lst ++ (Lr2 ++ Lm), by omega, by simp; omega, hp0, by rw [take_snoc hm]; exact StaO.snoc hst hr2 hn2 hmo, fun j c hj hcj => by
      rcases Nat.lt_succ_iff_lt_or_eq.1 hj with h3 | rfl
      · exact hq j c h3 hcj
      · rw [hm] at hcj; obtain rfl := Option.some.inj hcj; exact hver, ⟨rfl, rfl, rfl, rfl, trivial⟩, rfl⟩
 replace hg : ¬ ((_ : Int) < _) := hg
 have hN : newP ms delay = 0 := newP_ok hd hl (fun j m hm => hq j m (by have := (List.getElem?_eq_some_iff.1 hm).1; omega) hm)
 have hge : g = ms.length := by omega
 subst hge
 rw [List.take_length] at hst
 refine RL.nil ?_
 refine X.seq ?_
 refine X.cond_f rfl ?_
 refine X.exit rfl ?_
 refine X.seq ?_
 refine X.region rfl ?_
 refine RL.move rfl ?_
 refine RL.assign rfl ?_
 refine RL.assign rfl ?_
 refine RL.nil ?_
 refine X.ret ?_
 refine ret2 rfl ?_
 show _ ∨ _
 exact .inr ⟨hN, b1, A, cp, Lr, xs, Lst, rfl, hrow, hst, List.Sublist.refl _⟩
set_option maxHeartbeats 1000000 in
set_option maxRecDepth 10000 in
theorem f_xnew (ms : List (List Cl)) (hsz : MsSz ms) (A0 : Option Addr) (c0 : Nat) (delay : Int) (hd64 : ms.length ≤ 1000000) (vs : List Value) (w : World) (hrd : Rd w A0 vs) (hsta : StaV w vs ms) : Ctr Try.prog 19 [.slice A0 ms.length c0, .int .i64 delay] w [] fun v L => (newP ms delay ≠ 0 ∧ v = .tuple #[.pointer none, .int .i64 (newP ms delay)]) ∨ (newP ms delay = 0 ∧ ∃ xb cb cp junk, v = .tuple #[.pointer (some ⟨xb, 0, none⟩), .int .i64 0] ∧ (RefG xb cb cp junk delay vs (List.replicate ms.length mv0) ms.length).Sublist L) := by
 obtain ⟨bb, oo, hA0, hvs⟩ := hrd
 have hvl := hsta.len
 refine Ctr.intro0 (n := 88) Try.func19 rfl Try.ntmps19 (Nat.le_of_ble_eq_true rfl) ?_
 refine X.seq ?_
 refine X.region rfl ?_
 refine RL.assign rfl ?_
 refine RL.assign rfl ?_
 refine RL.nil ?_
 refine X.seq ?_
 refine X.seq ?_
 refine X.region rfl ?_
 refine RL.move rfl ?_
 refine RL.cmp_s rfl rfl rfl rfl (fun c1 => ?_) (fun c1 => ?_)
 ·replace c1 : (_ : Int) < _ := c1
  refine RL.move rfl ?_
  refine RL.skip rfl ?_
  refine RL.skip rfl ?_
  refine RL.pick_t rfl rfl ?_
  refine RL.nil ?_
  refine X.cond_t rfl ?_
  refine X.seq ?_
  refine X.region rfl ?_
  refine RL.assign rfl ?_
  refine RL.assign rfl ?_
  refine RL.nil ?_
  refine X.ret ?_
  refine ret2 rfl ?_
  show _ ∨ _
  have hN : newP ms delay = 1 := newP_d (.inl c1)
  exact .inl ⟨by rw [hN]; decide, by rw [hN]⟩
 replace c1 : ¬ ((_ : Int) < _) := c1
 refine RL.move rfl ?_
 refine RL.move rfl ?_
 refine RL.cmp_s rfl rfl rfl rfl (fun c2 => ?_) (fun c2 => ?_)
 ·replace c2 : (_ : Int) > _ := c2
  refine RL.pick_f rfl rfl ?_
  refine RL.nil ?_
  refine X.cond_t rfl ?_
  refine X.seq ?_
  refine X.region rfl ?_
  refine RL.assign rfl ?_
  refine RL.assign rfl ?_
  refine RL.nil ?_
  refine X.ret ?_
  refine ret2 rfl ?_
  show _ ∨ _
  have hN : newP ms delay = 1 := newP_d (.inr (by omega))
  exact .inl ⟨by rw [hN]; decide, by rw [hN]⟩
 replace c2 : ¬ ((_ : Int) > _) := c2
 have hd : ¬ (delay < 0 ∨ 1000 < delay) := by omega
 refine RL.pick_f rfl rfl ?_
 refine RL.nil ?_
 refine X.cond_f rfl ?_
 refine X.skip ?_
 refine X.seq ?_
 refine X.seq ?_
 refine X.region rfl ?_
 refine RL.move rfl ?_
 refine RL.len rfl sl32 rfl ?_
 refine RL.cmp_s rfl rfl rfl rfl (fun c3 => ?_) (fun c3 => ?_)
 ·replace c3 : (_ : Int) = _ := c3
  refine RL.move rfl ?_
  refine RL.skip rfl ?_
  refine RL.skip rfl ?_
  refine RL.skip rfl ?_
  refine RL.pick_t rfl rfl ?_
  refine RL.nil ?_
  refine X.cond_t rfl ?_
  refine X.seq ?_
  refine X.region rfl ?_
  refine RL.assign rfl ?_
  refine RL.assign rfl ?_
  refine RL.nil ?_
  refine X.ret ?_
  refine ret2 rfl ?_
  show _ ∨ _
  have hN : newP ms delay = 20 := newP_l hd (.inl (by omega))
  exact .inl ⟨by rw [hN]; decide, by rw [hN]⟩
 replace c3 : ¬ ((_ : Int) = _) := c3
 refine RL.move rfl ?_
 refine RL.move rfl ?_
 refine RL.len rfl sl32 rfl ?_
 refine RL.cmp_s rfl rfl rfl rfl (fun c4 => ?_) (fun c4 => ?_)
 ·replace c4 : (_ : Int) > _ := c4
  refine RL.pick_f rfl rfl ?_
  refine RL.nil ?_
  refine X.cond_t rfl ?_
  refine X.seq ?_
  refine X.region rfl ?_
  refine RL.assign rfl ?_
  refine RL.assign rfl ?_
  refine RL.nil ?_
  refine X.ret ?_
  refine ret2 rfl ?_
  show _ ∨ _
  have hN : newP ms delay = 20 := newP_l hd (.inr (by omega))
  exact .inl ⟨by rw [hN]; decide, by rw [hN]⟩
 replace c4 : ¬ ((_ : Int) > _) := c4
 have hl : ¬ (ms.length < 1 ∨ 4 < ms.length) := by omega
 refine RL.pick_f rfl rfl ?_
 refine RL.nil ?_
 refine X.cond_f rfl ?_
 refine X.skip ?_
 refine X.seq ?_
 refine X.region rfl ?_
 refine RL.move rfl ?_
 refine RL.bldC (vs := [(1, .int .i64 delay)]) (cells := [.slice none 0 0, .int .i64 delay]) rfl rfl (fun w => by kernel_rfl) ?_
 refine RL.boxA rfl rfl rfl ?_
 intro b1 hb1
 dsimp only at hb1
 refine RL.assign rfl ?_
 refine RL.nil ?_
 refine X.seq ?_
 refine X.seq ?_
 refine X.region rfl ?_
 refine RL.assign rfl ?_
 refine RL.nil ?_
 refine X.block ?_
 refine X.loop (γ := Nat) (fun g ρ L => ∃ A : Option Addr, ∃ cp : Nat, ∃ Lr : List Ent, (g ≤ ms.length) ∧ (Row 58 6 (.slice A g cp) (rcells (vs.take (g)) (List.replicate (g) mv0)) Lr) ∧ (∀ (j : Nat) m, j < g → ms[j]? = some m → verM ms j m = none) ∧ Has ρ [(0, .slice A0 ms.length c0), (6, .pointer (some ⟨b1, 0, none⟩)), (7, .int .i64 g)] ∧ L = Lr ++ [(b1, cel 61 [.slice A g cp, .int .i64 delay])]) (fun g => ms.length - g) (0) ⟨_, (by repeat (first | exact sb0 _ | exact sb1 _ | (rw [List.append_nil]; exact sb0 _) | exact sb2 _ _ | exact sb3 _ _ _ | apply sb4 | apply sb5 | apply sb6)), none, 0, [], Nat.zero_le _, Row.nil, fun j m hj => absurd hj (Nat.not_lt_zero j), ⟨rfl, rfl, rfl, trivial⟩, rfl⟩ ?_
 rintro g _ _ ⟨A, cp, Lr, hg0, hrow, hq, hρ, rfl⟩
 obtain ⟨base, rfl⟩ := hρ.base
 clear hρ
 refine X.seq ?_
 refine X.seq ?_
 refine X.region rfl ?_
 refine RL.move rfl ?_
 refine RL.move rfl ?_
 refine RL.len rfl sl32 rfl ?_
 refine RL.cmp_s rfl rfl rfl rfl (fun hg => ?_) (fun hg => ?_)
 ·replace hg : (_ : Int) < _ := hg
  obtain ⟨m, hm⟩ : ∃ m, ms[g]? = some m := ⟨_, List.getElem?_eq_getElem (by omega)⟩
  obtain ⟨Am, cm, hv0, hmr⟩ := hsta.get g m hm
  obtain ⟨hml, hmz⟩ := hsz.get hm
  refine RL.nil ?_
  refine X.cond_t rfl ?_
  refine X.skip ?_
  refine X.seq ?_
  refine X.block ?_
  refine X.seq ?_
  refine X.seq ?_
  refine X.region rfl ?_
  refine RL.move rfl ?_
  refine RL.move rfl ?_
  refine RL.indexAddr rfl sl32 rfl rfl (hA0 (by omega)) rfl (by omega) ?_
  refine RL.loadIA rfl ag30 rfl (cells_one hvs hv0) (by simp) rfl ?_
  refine RL.fn0 rfl rfl rfl en35 (fun w hw => (f_rmcheck m hmz hml Am cm w (hmr.st0 hw))) rfl ?_
  rintro _ _ rfl
  refine RL.drop rfl (List.sublist_append_right _ _) ?_
  refine RL.move rfl ?_
  refine RL.extract rfl rfl rfl ?_
  refine RL.extract rfl rfl rfl ?_
  refine RL.assign rfl ?_
  refine RL.assign rfl ?_
  refine RL.nil ?_
  refine X.seq ?_
  refine X.region rfl ?_
  refine RL.move rfl ?_
  refine RL.cmp_s rfl rfl rfl rfl (fun hv => ?_) (fun hv => ?_)
  ·replace hv : (_ : Int) ≠ _ := hv
   refine RL.nil ?_
   refine X.cond_t rfl ?_
   refine X.seq ?_
   refine X.region rfl ?_
   refine RL.move rfl ?_
   refine RL.assign rfl ?_
   refine RL.assign rfl ?_
   refine RL.nil ?_
   refine X.ret ?_
   refine ret2 rfl ?_
   show _ ∨ _
   have hN : newP ms delay = (mcheckP m).2 := newP_hit hd hl hm hq (verM_c hv)
   exact .inl ⟨by rw [hN]; exact hv, by rw [hN]⟩
  replace hv : ¬ ((_ : Int) ≠ _) := hv
  have hv1 : (mcheckP m).2 = 0 := by omega
  obtain ⟨bb2, oo2, hAm, hcl⟩ := hmr.open
  refine RL.nil ?_
  refine X.cond_f rfl ?_
  refine X.skip ?_
  refine X.seq ?_
  refine X.seq ?_
  refine X.region rfl ?_
  refine RL.assign rfl ?_
  refine RL.nil ?_
  refine X.block ?_
  refine X.loop (γ := Nat) (fun k ρ L => (k ≤ m.length) ∧ (∀ (j : Nat) c, j < k → m[j]? = some c → rfindP (ms.take g) c.id = none) ∧ Has ρ [(0, .slice A0 ms.length c0), (6, .pointer (some ⟨b1, 0, none⟩)), (7, .int .i64 g), (10, .int .i64 k)] ∧ L = Lr ++ [(b1, cel 61 [.slice A g cp, .int .i64 delay])]) (fun k => m.length - k) (0) ⟨_, (by repeat (first | exact sb0 _ | exact sb1 _ | (rw [List.append_nil]; exact sb0 _) | exact sb2 _ _ | exact sb3 _ _ _ | apply sb4 | apply sb5 | apply sb6)), Nat.zero_le _, fun j c hj => absurd hj (Nat.not_lt_zero j), ⟨rfl, rfl, rfl, rfl, trivial⟩, rfl⟩ ?_
  rintro k _ _ ⟨hk0, hf, hρ, rfl⟩
  obtain ⟨base, rfl⟩ := hρ.base
  clear hρ
  refine X.seq ?_
  refine X.seq ?_
  refine X.region rfl ?_
  refine RL.move rfl ?_
  refine RL.move rfl ?_
  refine RL.move rfl ?_
  refine RL.indexAddr rfl sl32 rfl rfl (hA0 (by omega)) rfl (by omega) ?_
  refine RL.fieldAddr rfl fd30_0 rfl ?_
  refine RL.loadI rfl sc28 rfl (cells_one hvs hv0 0 _ rfl) (by simp) ?_
  refine RL.len rfl sl28 rfl ?_
  refine RL.cmp_s rfl rfl rfl rfl (fun hk => ?_) (fun hk => ?_)
  ·replace hk : (_ : Int) < _ := hk
   obtain ⟨cl, hcl1⟩ : ∃ cl, m[k]? = some cl := ⟨_, List.getElem?_eq_getElem (by omega)⟩
   obtain ⟨cs, hcs, hcr⟩ := hcl k cl hcl1
   obtain ⟨hci, hfo, Af, cf, Amm, cmm, mss, rfl, hrf, hrm, hmss⟩ := hcr
   rcases hfi : rfindP (ms.take g) cl.id with _ | p
   ·refine RL.nil ?_
    refine X.cond_t rfl ?_
    refine X.skip ?_
    refine X.seq ?_
    refine X.block ?_
    refine X.seq ?_
    refine X.region rfl ?_
    refine RL.move rfl ?_
    refine RL.move rfl ?_
    refine RL.move rfl ?_
    refine RL.indexAddr rfl sl32 rfl rfl (hA0 (by omega)) rfl (by omega) ?_
    refine RL.fieldAddr rfl fd30_0 rfl ?_
    refine RL.loadI rfl sc28 rfl (cells_one hvs hv0 0 _ rfl) (by simp) ?_
    refine RL.move rfl ?_
    refine RL.indexAddr rfl sl28 rfl rfl (hAm (by omega)) rfl (by omega) ?_
    refine RL.fieldAddr rfl fd69_0 rfl ?_
    refine RL.loadIA rfl ag47 rfl (cl_id_at hci hcs) (by simp) (gcells_length hci) ?_
    refine RL.fn0 rfl rfl rfl en26 (fun w hw => ((f_xfind (ms.take g) (fun m hm => hsz m (List.mem_of_mem_take hm)) (by rw [List.length_take]; omega) cl.id hci b1 delay (vs.take g) (List.replicate g mv0) w (refG_reads hw (by rw [List.length_take, List.length_replicate]; omega) (by rw [List.length_replicate]; exact hrow) (by rw [List.length_replicate]; simp) (fun p hp => by simp [hp])) ((hsta.take g).st0 hw)).mono fun v L h => (by rw [hfi] at h; exact h : v = .tuple #[.int .i64 (-1), .int .i64 0]))) rfl ?_
    rintro _ _ rfl
    refine RL.drop rfl (List.sublist_append_right _ _) ?_
    refine RL.move rfl ?_
    refine RL.extract rfl rfl rfl ?_
    refine RL.extract rfl rfl rfl ?_
    refine RL.assign rfl ?_
    refine RL.assign rfl ?_
    refine RL.nil ?_
    refine X.seq ?_
    refine X.region rfl ?_
    refine RL.move rfl ?_
    refine RL.cmp_f rfl rfl rfl rfl (by show ¬ ((_ : Int) ≥ _); decide) ?_
    refine RL.nil ?_
    refine X.cond_f rfl ?_
    refine X.skip ?_
    refine X.blk ?_
    refine X.region rfl ?_
    refine RL.move rfl ?_
    refine RL.add rfl rfl rfl (by omega) ?_
    refine RL.assign rfl ?_
    refine RL.nil ?_
    refine X.hyp ⟨rfl, k + 1, by omega, _, (by repeat (first | exact sb0 _ | exact sb1 _ | (rw [List.append_nil]; exact sb0 _) | exact sb2 _ _ | exact sb3 _ _ _ | apply sb4 | apply sb5 | apply sb6)), by omega, fun j c hj hcj => by
        rcases Nat.lt_succ_iff_lt_or_eq.1 hj with h3 | rfl
        · exact hf j c h3 hcj
        · rw [hcl1] at hcj; obtain rfl := Option.some.inj hcj; exact hfi, ⟨rfl, rfl, rfl, rfl, trivial⟩, rfl⟩
   refine RL.nil ?_
   refine X.cond_t rfl ?_
   refine X.skip ?_
   refine X.seq ?_
   refine X.block ?_
   refine X.seq ?_
   refine X.region rfl ?_
   refine RL.move rfl ?_
   refine RL.move rfl ?_
   refine RL.move rfl ?_
   refine RL.indexAddr rfl sl32 rfl rfl (hA0 (by omega)) rfl (by omega) ?_
   refine RL.fieldAddr rfl fd30_0 rfl ?_
   refine RL.loadI rfl sc28 rfl (cells_one hvs hv0 0 _ rfl) (by simp) ?_
   refine RL.move rfl ?_
   refine RL.indexAddr rfl sl28 rfl rfl (hAm (by omega)) rfl (by omega) ?_
   refine RL.fieldAddr rfl fd69_0 rfl ?_
   refine RL.loadIA rfl ag47 rfl (cl_id_at hci hcs) (by simp) (gcells_length hci) ?_
   refine RL.fn0 rfl rfl rfl en26 (fun w hw => ((f_xfind (ms.take g) (fun m hm => hsz m (List.mem_of_mem_take hm)) (by rw [List.length_take]; omega) cl.id hci b1 delay (vs.take g) (List.replicate g mv0) w (refG_reads hw (by rw [List.length_take, List.length_replicate]; omega) (by rw [List.length_replicate]; exact hrow) (by rw [List.length_replicate]; simp) (fun p hp => by simp [hp])) ((hsta.take g).st0 hw)).mono fun v L h => (by rw [hfi] at h; exact h : v = .tuple #[.int .i64 ((p.1 : Nat) : Int), .int .i64 ((p.2 : Nat) : Int)]))) rfl ?_
   rintro _ _ rfl
   refine RL.drop rfl (List.sublist_append_right _ _) ?_
   refine RL.move rfl ?_
   refine RL.extract rfl rfl rfl ?_
   refine RL.extract rfl rfl rfl ?_
   refine RL.assign rfl ?_
   refine RL.assign rfl ?_
   refine RL.nil ?_
   refine X.seq ?_
   refine X.region rfl ?_
   refine RL.move rfl ?_
   refine RL.cmp_t rfl rfl rfl rfl (by show ((_ : Int) ≥ _); omega) ?_
   refine RL.nil ?_
   refine X.cond_t rfl ?_
   refine X.seq ?_
   refine X.region rfl ?_
   refine RL.assign rfl ?_
   refine RL.assign rfl ?_
   refine RL.nil ?_
   refine X.ret ?_
   refine ret2 rfl ?_
   show _ ∨ _
   have hN : newP ms delay = 13 := newP_hit hd hl hm hq (verM_t hv1 hcl1 hfi)
   exact .inl ⟨by rw [hN]; decide, by rw [hN]⟩
  replace hk : ¬ ((_ : Int) < _) := hk
  have hver : verM ms g m = none := verM_no hv1 (fun j c hcj => hf j c (by have := (List.getElem?_eq_some_iff.1 hcj).1; omega) hcj)
  refine RL.nil ?_
  refine X.cond_f rfl ?_
  refine X.exit rfl ?_
  refine X.set [.val (.pointer (some ⟨b1, 0, none⟩)), .val (.pointer (some ⟨b1, 0, none⟩)), .val (.pointer (some ⟨b1, 0, none⟩)), .val (.pointer (some ⟨b1, 0 + 0, none⟩)), .val (.slice A g cp), .val (.slice A0 ms.length c0), .val (.int .i64 g), .val (.pointer (some ⟨bb, oo + g * 1, none⟩)), .val (.agg #[.slice Am m.length cm]), .val (.agg #[.slice Am m.length cm, .bool false, .int .u32 0, .int .u32 0, .int .u32 0, .int .i64 0]), .any, .any, .val (.pointer (some ⟨b1, 0, none⟩)), .val (.pointer (some ⟨b1, 0 + 0, none⟩)), .any] [[], [], [1], [1, 2], [1, 2, 3], [], [], [5, 6], [5, 6, 7], [5, 6, 7, 8], [5, 6, 7, 8, 9], [1, 2, 3, 4, 5, 6, 7, 8, 9, 10], [0, 1, 2, 3, 4, 5, 6, 7, 8, 9, 10, 11], [0, 1, 2, 3, 4, 5, 6, 7, 8, 9, 10, 11, 12], [0, 1, 2, 3, 4, 5, 6, 7, 8, 9, 10, 11, 12, 13]] (fun D ρ L => (D 10 = false ∧ D 11 = false ∧ D 14 = false ∧ True ∧ Has ρ [] ∧ L.Perm ((Lr) ++ ([(b1, cel 61 [.slice A g cp, .int .i64 delay])]))) ∨ (D 10 = true ∧ D 11 = false ∧ D 14 = false ∧ True ∧ ∃ b21 : Nat, Has ρ [(83, .slice (some ⟨b21, 0, none⟩) 1 1)] ∧ L.Perm ((Lr) ++ (([(b1, cel 61 [.slice A g cp, .int .i64 delay])]) ++ ([(b21, cel 58 [.slice Am m.length cm, .bool false, .int .u32 0, .int .u32 0, .int .u32 0, .int .i64 0])])))) ∨ (D 10 = true ∧ D 11 = true ∧ D 14 = false ∧ True ∧ ∃ b21 : Nat, ∃ A3 : Option Addr, ∃ cp3 : Nat, ∃ Lr3 : List Ent, (Row 58 6 (.slice A3 (g + 1) cp3) (rcells (vs.take (g + 1)) (List.replicate (g + 1) mv0)) Lr3) ∧ Has ρ [(83, .slice (some ⟨b21, 0, none⟩) 1 1), (84, .slice A3 (g + 1) cp3)] ∧ L.Perm ((Lr3) ++ (([(b1, cel 61 [.slice A g cp, .int .i64 delay])]) ++ ([(b21, cel 58 [.slice Am m.length cm, .bool false, .int .u32 0, .int .u32 0, .int .u32 0, .int .i64 0])])))) ∨ (D 10 = true ∧ D 11 = true ∧ D 14 = true ∧ True ∧ ∃ b21 : Nat, ∃ A3 : Option Addr, ∃ cp3 : Nat, ∃ Lr3 : List Ent, (Row 58 6 (.slice A3 (g + 1) cp3) (rcells (vs.take (g + 1)) (List.replicate (g + 1) mv0)) Lr3) ∧ Has ρ [(83, .slice (some ⟨b21, 0, none⟩) 1 1), (84, .slice A3 (g + 1) cp3)] ∧ L.Perm ((Lr3) ++ (([(b1, cel 61 [.slice A3 (g + 1) cp3, .int .i64 delay])]) ++ ([(b21, cel 58 [.slice Am m.length cm, .bool false, .int .u32 0, .int .u32 0, .int .u32 0, .int .i64 0])]))))) rfl (by kernel_rfl) (by kernel_rfl) (by kernel_rfl) (by kernel_rfl) (fun D hD => .inl ⟨hD 10, hD 11, hD 14, trivial, trivial, (pmm fun _ _ z => by simp only [pm1, pm2, pm3, pm4, pm5, pm6, List.cons_append, List.nil_append] <;> omega)⟩) ⟨?_, ?_, ?_, ?_, ?_, ?_, ?_, ?_, ?_, ?_, ?_, ?_, ?_, ?_, ?_, trivial⟩ ?_
  ·intro ρ L D hS
   rcases hS.sp with ⟨e10, e11, e14, -, hρ, hL⟩ | ⟨e10, e11, e14, -, b21, hρ, hL⟩ | ⟨e10, e11, e14, -, b21, A3, cp3, Lr3, hp0, hρ, hL⟩ | ⟨e10, e11, e14, -, b21, A3, cp3, Lr3, hp0, hρ, hL⟩
   ·have u6 : ρ 6 = .pointer (some ⟨b1, 0, none⟩) := hS.fix 6 (by decide)
    clear hS hρ
    obtain ⟨base, rfl⟩ := Has.base (ρ := ρ) (l := [(6, .pointer (some ⟨b1, 0, none⟩))]) ⟨u6, trivial⟩
    clear u6
    refine RL.perm rfl hL.symm ?_
    clear hL
    refine RL.move rfl ?_
    refine RL.nil ?_
    exact ⟨rfl, ⟨_, rfl, rfl⟩, .inl ⟨e10, e11, e14, trivial, trivial, List.Perm.refl _⟩⟩
   ·have u6 : ρ 6 = .pointer (some ⟨b1, 0, none⟩) := hS.fix 6 (by decide)
    have u83 : ρ 83 = .slice (some ⟨b21, 0, none⟩) 1 1 := hρ.1
    clear hS hρ
    obtain ⟨base, rfl⟩ := Has.base (ρ := ρ) (l := [(6, .pointer (some ⟨b1, 0, none⟩)), (83, .slice (some ⟨b21, 0, none⟩) 1 1)]) ⟨u6, u83, trivial⟩
    clear u6 u83
    refine RL.perm rfl hL.symm ?_
    clear hL
    refine RL.move rfl ?_
    refine RL.nil ?_
    exact ⟨rfl, ⟨_, rfl, rfl⟩, .inr (.inl ⟨e10, e11, e14, trivial, b21, ⟨rfl, trivial⟩, List.Perm.refl _⟩)⟩
   ·have u6 : ρ 6 = .pointer (some ⟨b1, 0, none⟩) := hS.fix 6 (by decide)
    have u83 : ρ 83 = .slice (some ⟨b21, 0, none⟩) 1 1 := hρ.1
    have u84 : ρ 84 = .slice A3 (g + 1) cp3 := hρ.2.1
    clear hS hρ
    obtain ⟨base, rfl⟩ := Has.base (ρ := ρ) (l := [(6, .pointer (some ⟨b1, 0, none⟩)), (83, .slice (some ⟨b21, 0, none⟩) 1 1), (84, .slice A3 (g + 1) cp3)]) ⟨u6, u83, u84, trivial⟩
    clear u6 u83 u84
    refine RL.perm rfl hL.symm ?_
    clear hL
    refine RL.move rfl ?_
    refine RL.nil ?_
    exact ⟨rfl, ⟨_, rfl, rfl⟩, .inr (.inr (.inl ⟨e10, e11, e14, trivial, b21, A3, cp3, Lr3, hp0, ⟨rfl, rfl, trivial⟩, List.Perm.refl _⟩))⟩
   exact hS.hi 14 rfl (by kernel_rfl) e14
  ·intro ρ L D hS
   rcases hS.sp with ⟨e10, e11, e14, -, hρ, hL⟩ | ⟨e10, e11, e14, -, b21, hρ, hL⟩ | ⟨e10, e11, e14, -, b21, A3, cp3, Lr3, hp0, hρ, hL⟩ | ⟨e10, e11, e14, -, b21, A3, cp3, Lr3, hp0, hρ, hL⟩
   ·have u6 : ρ 6 = .pointer (some ⟨b1, 0, none⟩) := hS.fix 6 (by decide)
    clear hS hρ
    obtain ⟨base, rfl⟩ := Has.base (ρ := ρ) (l := [(6, .pointer (some ⟨b1, 0, none⟩))]) ⟨u6, trivial⟩
    clear u6
    refine RL.perm rfl hL.symm ?_
    clear hL
    refine RL.move rfl ?_
    refine RL.nil ?_
    exact ⟨rfl, ⟨_, rfl, rfl⟩, .inl ⟨e10, e11, e14, trivial, trivial, List.Perm.refl _⟩⟩
   ·have u6 : ρ 6 = .pointer (some ⟨b1, 0, none⟩) := hS.fix 6 (by decide)
    have u83 : ρ 83 = .slice (some ⟨b21, 0, none⟩) 1 1 := hρ.1
    clear hS hρ
    obtain ⟨base, rfl⟩ := Has.base (ρ := ρ) (l := [(6, .pointer (some ⟨b1, 0, none⟩)), (83, .slice (some ⟨b21, 0, none⟩) 1 1)]) ⟨u6, u83, trivial⟩
    clear u6 u83
    refine RL.perm rfl hL.symm ?_
    clear hL
    refine RL.move rfl ?_
    refine RL.nil ?_
    exact ⟨rfl, ⟨_, rfl, rfl⟩, .inr (.inl ⟨e10, e11, e14, trivial, b21, ⟨rfl, trivial⟩, List.Perm.refl _⟩)⟩
   ·exact hS.hi 11 rfl (by kernel_rfl) e11
   exact hS.hi 11 rfl (by kernel_rfl) e11
  ·intro ρ L D hS
   rcases hS.sp with ⟨e10, e11, e14, -, hρ, hL⟩ | ⟨e10, e11, e14, -, b21, hρ, hL⟩ | ⟨e10, e11, e14, -, b21, A3, cp3, Lr3, hp0, hρ, hL⟩ | ⟨e10, e11, e14, -, b21, A3, cp3, Lr3, hp0, hρ, hL⟩
   ·have u74 : ρ 74 = .pointer (some ⟨b1, 0, none⟩) := hS.dep ⟨1, Ground.data⟩ (by simp) rfl _ _ rfl rfl
    clear hS hρ
    obtain ⟨base, rfl⟩ := Has.base (ρ := ρ) (l := [(74, .pointer (some ⟨b1, 0, none⟩))]) ⟨u74, trivial⟩
    clear u74
    refine RL.perm rfl hL.symm ?_
    clear hL
    refine RL.nilCheck rfl rfl ?_
    refine RL.nil ?_
    exact ⟨rfl, ⟨_, rfl, rfl⟩, .inl ⟨e10, e11, e14, trivial, trivial, List.Perm.refl _⟩⟩
   ·have u74 : ρ 74 = .pointer (some ⟨b1, 0, none⟩) := hS.dep ⟨1, Ground.data⟩ (by simp) rfl _ _ rfl rfl
    have u83 : ρ 83 = .slice (some ⟨b21, 0, none⟩) 1 1 := hρ.1
    clear hS hρ
    obtain ⟨base, rfl⟩ := Has.base (ρ := ρ) (l := [(74, .pointer (some ⟨b1, 0, none⟩)), (83, .slice (some ⟨b21, 0, none⟩) 1 1)]) ⟨u74, u83, trivial⟩
    clear u74 u83
    refine RL.perm rfl hL.symm ?_
    clear hL
    refine RL.nilCheck rfl rfl ?_
    refine RL.nil ?_
    exact ⟨rfl, ⟨_, rfl, rfl⟩, .inr (.inl ⟨e10, e11, e14, trivial, b21, ⟨rfl, trivial⟩, List.Perm.refl _⟩)⟩
   ·exact hS.hi 11 rfl (by kernel_rfl) e11
   exact hS.hi 11 rfl (by kernel_rfl) e11
  ·intro ρ L D hS
   rcases hS.sp with ⟨e10, e11, e14, -, hρ, hL⟩ | ⟨e10, e11, e14, -, b21, hρ, hL⟩ | ⟨e10, e11, e14, -, b21, A3, cp3, Lr3, hp0, hρ, hL⟩ | ⟨e10, e11, e14, -, b21, A3, cp3, Lr3, hp0, hρ, hL⟩
   ·have u75 : ρ 75 = .pointer (some ⟨b1, 0, none⟩) := hS.dep ⟨2, Ground.data⟩ (by simp) rfl _ _ rfl rfl
    clear hS hρ
    obtain ⟨base, rfl⟩ := Has.base (ρ := ρ) (l := [(75, .pointer (some ⟨b1, 0, none⟩))]) ⟨u75, trivial⟩
    clear u75
    refine RL.perm rfl hL.symm ?_
    clear hL
    refine RL.fieldAddr rfl fd61_0 rfl ?_
    refine RL.nil ?_
    exact ⟨rfl, ⟨_, rfl, rfl⟩, .inl ⟨e10, e11, e14, trivial, trivial, List.Perm.refl _⟩⟩
   ·have u75 : ρ 75 = .pointer (some ⟨b1, 0, none⟩) := hS.dep ⟨2, Ground.data⟩ (by simp) rfl _ _ rfl rfl
    have u83 : ρ 83 = .slice (some ⟨b21, 0, none⟩) 1 1 := hρ.1
    clear hS hρ
    obtain ⟨base, rfl⟩ := Has.base (ρ := ρ) (l := [(75, .pointer (some ⟨b1, 0, none⟩)), (83, .slice (some ⟨b21, 0, none⟩) 1 1)]) ⟨u75, u83, trivial⟩
    clear u75 u83
    refine RL.perm rfl hL.symm ?_
    clear hL
    refine RL.fieldAddr rfl fd61_0 rfl ?_
    refine RL.nil ?_
    exact ⟨rfl, ⟨_, rfl, rfl⟩, .inr (.inl ⟨e10, e11, e14, trivial, b21, ⟨rfl, trivial⟩, List.Perm.refl _⟩)⟩
   ·exact hS.hi 11 rfl (by kernel_rfl) e11
   exact hS.hi 11 rfl (by kernel_rfl) e11
  ·intro ρ L D hS
   rcases hS.sp with ⟨e10, e11, e14, -, hρ, hL⟩ | ⟨e10, e11, e14, -, b21, hρ, hL⟩ | ⟨e10, e11, e14, -, b21, A3, cp3, Lr3, hp0, hρ, hL⟩ | ⟨e10, e11, e14, -, b21, A3, cp3, Lr3, hp0, hρ, hL⟩
   ·have u76 : ρ 76 = .pointer (some ⟨b1, 0 + 0, none⟩) := hS.dep ⟨3, Ground.data⟩ (by simp) rfl _ _ rfl rfl
    clear hS hρ
    obtain ⟨base, rfl⟩ := Has.base (ρ := ρ) (l := [(76, .pointer (some ⟨b1, 0 + 0, none⟩))]) ⟨u76, trivial⟩
    clear u76
    refine RL.perm rfl hL.symm ?_
    clear hL
    refine RL.loadO rfl sc59 rfl rfl ?_
    refine RL.nil ?_
    exact ⟨rfl, ⟨_, rfl, rfl⟩, .inl ⟨e10, e11, e14, trivial, trivial, List.Perm.refl _⟩⟩
   ·have u76 : ρ 76 = .pointer (some ⟨b1, 0 + 0, none⟩) := hS.dep ⟨3, Ground.data⟩ (by simp) rfl _ _ rfl rfl
    have u83 : ρ 83 = .slice (some ⟨b21, 0, none⟩) 1 1 := hρ.1
    clear hS hρ
    obtain ⟨base, rfl⟩ := Has.base (ρ := ρ) (l := [(76, .pointer (some ⟨b1, 0 + 0, none⟩)), (83, .slice (some ⟨b21, 0, none⟩) 1 1)]) ⟨u76, u83, trivial⟩
    clear u76 u83
    refine RL.perm rfl hL.symm ?_
    clear hL
    refine RL.loadO rfl sc59 rfl rfl ?_
    refine RL.nil ?_
    exact ⟨rfl, ⟨_, rfl, rfl⟩, .inr (.inl ⟨e10, e11, e14, trivial, b21, ⟨rfl, trivial⟩, List.Perm.refl _⟩)⟩
   ·exact hS.hi 11 rfl (by kernel_rfl) e11
   exact hS.hi 11 rfl (by kernel_rfl) e11
  ·intro ρ L D hS
   rcases hS.sp with ⟨e10, e11, e14, -, hρ, hL⟩ | ⟨e10, e11, e14, -, b21, hρ, hL⟩ | ⟨e10, e11, e14, -, b21, A3, cp3, Lr3, hp0, hρ, hL⟩ | ⟨e10, e11, e14, -, b21, A3, cp3, Lr3, hp0, hρ, hL⟩
   ·have u0 : ρ 0 = .slice A0 ms.length c0 := hS.fix 0 (by decide)
    clear hS hρ
    obtain ⟨base, rfl⟩ := Has.base (ρ := ρ) (l := [(0, .slice A0 ms.length c0)]) ⟨u0, trivial⟩
    clear u0
    refine RL.perm rfl hL.symm ?_
    clear hL
    refine RL.move rfl ?_
    refine RL.nil ?_
    exact ⟨rfl, ⟨_, rfl, rfl⟩, .inl ⟨e10, e11, e14, trivial, trivial, List.Perm.refl _⟩⟩
   ·exact hS.hi 10 rfl (by kernel_rfl) e10
   ·exact hS.hi 10 rfl (by kernel_rfl) e10
   exact hS.hi 10 rfl (by kernel_rfl) e10
  ·intro ρ L D hS
   rcases hS.sp with ⟨e10, e11, e14, -, hρ, hL⟩ | ⟨e10, e11, e14, -, b21, hρ, hL⟩ | ⟨e10, e11, e14, -, b21, A3, cp3, Lr3, hp0, hρ, hL⟩ | ⟨e10, e11, e14, -, b21, A3, cp3, Lr3, hp0, hρ, hL⟩
   ·have u7 : ρ 7 = .int .i64 g := hS.fix 7 (by decide)
    clear hS hρ
    obtain ⟨base, rfl⟩ := Has.base (ρ := ρ) (l := [(7, .int .i64 g)]) ⟨u7, trivial⟩
    clear u7
    refine RL.perm rfl hL.symm ?_
    clear hL
    refine RL.move rfl ?_
    refine RL.nil ?_
    exact ⟨rfl, ⟨_, rfl, rfl⟩, .inl ⟨e10, e11, e14, trivial, trivial, List.Perm.refl _⟩⟩
   ·exact hS.hi 10 rfl (by kernel_rfl) e10
   ·exact hS.hi 10 rfl (by kernel_rfl) e10
   exact hS.hi 10 rfl (by kernel_rfl) e10
  ·intro ρ L D hS
   rcases hS.sp with ⟨e10, e11, e14, -, hρ, hL⟩ | ⟨e10, e11, e14, -, b21, hρ, hL⟩ | ⟨e10, e11, e14, -, b21, A3, cp3, Lr3, hp0, hρ, hL⟩ | ⟨e10, e11, e14, -, b21, A3, cp3, Lr3, hp0, hρ, hL⟩
   ·have u78 : ρ 78 = .slice A0 ms.length c0 := hS.dep ⟨5, Ground.data⟩ (by simp) rfl _ _ rfl rfl
    have u79 : ρ 79 = .int .i64 g := hS.dep ⟨6, Ground.data⟩ (by simp) rfl _ _ rfl rfl
    clear hS hρ
    obtain ⟨base, rfl⟩ := Has.base (ρ := ρ) (l := [(78, .slice A0 ms.length c0), (79, .int .i64 g)]) ⟨u78, u79, trivial⟩
    clear u78 u79
    refine RL.perm rfl hL.symm ?_
    clear hL
    refine RL.indexAddr rfl sl32 rfl rfl (hA0 (by omega)) rfl (by omega) ?_
    refine RL.nil ?_
    exact ⟨rfl, ⟨_, rfl, rfl⟩, .inl ⟨e10, e11, e14, trivial, trivial, List.Perm.refl _⟩⟩
   ·exact hS.hi 10 rfl (by kernel_rfl) e10
   ·exact hS.hi 10 rfl (by kernel_rfl) e10
   exact hS.hi 10 rfl (by kernel_rfl) e10
  ·intro ρ L D hS
   rcases hS.sp with ⟨e10, e11, e14, -, hρ, hL⟩ | ⟨e10, e11, e14, -, b21, hρ, hL⟩ | ⟨e10, e11, e14, -, b21, A3, cp3, Lr3, hp0, hρ, hL⟩ | ⟨e10, e11, e14, -, b21, A3, cp3, Lr3, hp0, hρ, hL⟩
   ·have u80 : ρ 80 = .pointer (some ⟨bb, oo + g * 1, none⟩) := hS.dep ⟨7, Ground.data⟩ (by simp) rfl _ _ rfl rfl
    clear hS hρ
    obtain ⟨base, rfl⟩ := Has.base (ρ := ρ) (l := [(80, .pointer (some ⟨bb, oo + g * 1, none⟩))]) ⟨u80, trivial⟩
    clear u80
    refine RL.perm rfl hL.symm ?_
    clear hL
    refine RL.loadIA rfl ag30 rfl (cells_one hvs hv0) (by simp) rfl ?_
    refine RL.nil ?_
    exact ⟨rfl, ⟨_, rfl, rfl⟩, .inl ⟨e10, e11, e14, trivial, trivial, List.Perm.refl _⟩⟩
   ·exact hS.hi 10 rfl (by kernel_rfl) e10
   ·exact hS.hi 10 rfl (by kernel_rfl) e10
   exact hS.hi 10 rfl (by kernel_rfl) e10
  ·intro ρ L D hS
   rcases hS.sp with ⟨e10, e11, e14, -, hρ, hL⟩ | ⟨e10, e11, e14, -, b21, hρ, hL⟩ | ⟨e10, e11, e14, -, b21, A3, cp3, Lr3, hp0, hρ, hL⟩ | ⟨e10, e11, e14, -, b21, A3, cp3, Lr3, hp0, hρ, hL⟩
   ·have u81 : ρ 81 = .agg #[.slice Am m.length cm] := hS.dep ⟨8, Ground.data⟩ (by simp) rfl _ _ rfl rfl
    clear hS hρ
    obtain ⟨base, rfl⟩ := Has.base (ρ := ρ) (l := [(81, .agg #[.slice Am m.length cm])]) ⟨u81, trivial⟩
    clear u81
    refine RL.perm rfl hL.symm ?_
    clear hL
    refine RL.bldC (vs := [(0, .agg #[.slice Am m.length cm])]) (cells := [.slice Am m.length cm, .bool false, .int .u32 0, .int .u32 0, .int .u32 0, .int .i64 0]) rfl rfl (fun w => by kernel_rfl) ?_
    refine RL.nil ?_
    exact ⟨rfl, ⟨_, rfl, rfl⟩, .inl ⟨e10, e11, e14, trivial, trivial, List.Perm.refl _⟩⟩
   ·exact hS.hi 10 rfl (by kernel_rfl) e10
   ·exact hS.hi 10 rfl (by kernel_rfl) e10
   exact hS.hi 10 rfl (by kernel_rfl) e10
  ·intro ρ L D hS
   rcases hS.sp with ⟨e10, e11, e14, -, hρ, hL⟩ | ⟨e10, e11, e14, -, b21, hρ, hL⟩ | ⟨e10, e11, e14, -, b21, A3, cp3, Lr3, hp0, hρ, hL⟩ | ⟨e10, e11, e14, -, b21, A3, cp3, Lr3, hp0, hρ, hL⟩
   ·have u82 : ρ 82 = .agg #[.slice Am m.length cm, .bool false, .int .u32 0, .int .u32 0, .int .u32 0, .int .i64 0] := hS.dep ⟨9, Ground.data⟩ (by simp) rfl _ _ rfl rfl
    clear hS hρ
    obtain ⟨base, rfl⟩ := Has.base (ρ := ρ) (l := [(82, .agg #[.slice Am m.length cm, .bool false, .int .u32 0, .int .u32 0, .int .u32 0, .int .i64 0])]) ⟨u82, trivial⟩
    clear u82
    refine RL.perm rfl hL.symm ?_
    clear hL
    refine RL.bs1A (l := [.slice Am m.length cm, .bool false, .int .u32 0, .int .u32 0, .int .u32 0, .int .i64 0]) rfl rfl sl59 zt58 rfl rfl (by decide) ?_
    intro b21 hb21
    refine RL.nil ?_
    exact ⟨rfl, ⟨_, rfl, trivial⟩, .inr (.inl ⟨rfl, e11, e14, trivial, b21, ⟨rfl, trivial⟩, (pmm fun _ _ z => by simp only [pm1, pm2, pm3, pm4, pm5, pm6, List.cons_append, List.nil_append] <;> omega)⟩)⟩
   ·exact hS.me e10
   ·exact hS.hi 11 rfl (by kernel_rfl) e11
   exact hS.hi 11 rfl (by kernel_rfl) e11
  ·intro ρ L D hS
   rcases hS.sp with ⟨e10, e11, e14, -, hρ, hL⟩ | ⟨e10, e11, e14, -, b21, hρ, hL⟩ | ⟨e10, e11, e14, -, b21, A3, cp3, Lr3, hp0, hρ, hL⟩ | ⟨e10, e11, e14, -, b21, A3, cp3, Lr3, hp0, hρ, hL⟩
   ·exact hS.lo 10 (by kernel_rfl) e10
   ·have u77 : ρ 77 = .slice A g cp := hS.dep ⟨4, Ground.data⟩ (by simp) rfl _ _ rfl rfl
    have u83 : ρ 83 = .slice (some ⟨b21, 0, none⟩) 1 1 := hρ.1
    clear hS hρ
    obtain ⟨base, rfl⟩ := Has.base (ρ := ρ) (l := [(77, .slice A g cp), (83, .slice (some ⟨b21, 0, none⟩) 1 1)]) ⟨u77, u83, trivial⟩
    clear u77 u83
    refine RL.perm rfl hL.symm ?_
    clear hL
    refine RL.appB (Lr := Lr) (xs := rcells (vs.take g) (List.replicate g mv0)) (ys := [.slice Am m.length cm, .bool false, .int .u32 0, .int .u32 0, .int .u32 0, .int .i64 0]) (N := g + 1) rfl rfl sl59 el_xm (by decide) (by decide) Try.underlying59 rfl hrow rfl (List.Perm.refl _) (by simp) rfl (by simp [Value.oneCell']) (by omega) rfl ?_
    intro A3 cp3 Lr3 hr3
    rw [show rcells (vs.take g) (List.replicate g mv0) ++ [.slice Am m.length cm, .bool false, .int .u32 0, .int .u32 0, .int .u32 0, .int .i64 0] = rcells (vs.take (g + 1)) (List.replicate (g + 1) mv0) from by rw [take_snoc hv0, List.replicate_succ', rcells_app _ _ _ _ (by rw [List.length_take, List.length_replicate]; omega)]; rfl] at hr3
    refine RL.nil ?_
    exact ⟨rfl, ⟨_, rfl, trivial⟩, .inr (.inr (.inl ⟨e10, rfl, e14, trivial, b21, A3, cp3, Lr3, hr3, ⟨rfl, rfl, trivial⟩, (pmm fun _ _ z => by simp only [pm1, pm2, pm3, pm4, pm5, pm6, List.cons_append, List.nil_append] <;> omega)⟩))⟩
   ·exact hS.me e11
   exact hS.hi 14 rfl (by kernel_rfl) e14
  ·intro ρ L D hS
   rcases hS.sp with ⟨e10, e11, e14, -, hρ, hL⟩ | ⟨e10, e11, e14, -, b21, hρ, hL⟩ | ⟨e10, e11, e14, -, b21, A3, cp3, Lr3, hp0, hρ, hL⟩ | ⟨e10, e11, e14, -, b21, A3, cp3, Lr3, hp0, hρ, hL⟩
   ·exact hS.lo 10 (by kernel_rfl) e10
   ·exact hS.lo 11 (by kernel_rfl) e11
   ·have u73 : ρ 73 = .pointer (some ⟨b1, 0, none⟩) := hS.dep ⟨0, Ground.data⟩ (by simp) rfl _ _ rfl rfl
    have u83 : ρ 83 = .slice (some ⟨b21, 0, none⟩) 1 1 := hρ.1
    have u84 : ρ 84 = .slice A3 (g + 1) cp3 := hρ.2.1
    clear hS hρ
    obtain ⟨base, rfl⟩ := Has.base (ρ := ρ) (l := [(73, .pointer (some ⟨b1, 0, none⟩)), (83, .slice (some ⟨b21, 0, none⟩) 1 1), (84, .slice A3 (g + 1) cp3)]) ⟨u73, u83, u84, trivial⟩
    clear u73 u83 u84
    refine RL.perm rfl hL.symm ?_
    clear hL
    refine RL.nilCheck rfl rfl ?_
    refine RL.nil ?_
    exact ⟨rfl, ⟨_, rfl, rfl⟩, .inr (.inr (.inl ⟨e10, e11, e14, trivial, b21, A3, cp3, Lr3, hp0, ⟨rfl, rfl, trivial⟩, List.Perm.refl _⟩))⟩
   exact hS.hi 14 rfl (by kernel_rfl) e14
  ·intro ρ L D hS
   rcases hS.sp with ⟨e10, e11, e14, -, hρ, hL⟩ | ⟨e10, e11, e14, -, b21, hρ, hL⟩ | ⟨e10, e11, e14, -, b21, A3, cp3, Lr3, hp0, hρ, hL⟩ | ⟨e10, e11, e14, -, b21, A3, cp3, Lr3, hp0, hρ, hL⟩
   ·exact hS.lo 10 (by kernel_rfl) e10
   ·exact hS.lo 11 (by kernel_rfl) e11
   ·have u83 : ρ 83 = .slice (some ⟨b21, 0, none⟩) 1 1 := hρ.1
    have u84 : ρ 84 = .slice A3 (g + 1) cp3 := hρ.2.1
    have u85 : ρ 85 = .pointer (some ⟨b1, 0, none⟩) := hS.dep ⟨12, Ground.data⟩ (by simp) rfl _ _ rfl rfl
    clear hS hρ
    obtain ⟨base, rfl⟩ := Has.base (ρ := ρ) (l := [(83, .slice (some ⟨b21, 0, none⟩) 1 1), (84, .slice A3 (g + 1) cp3), (85, .pointer (some ⟨b1, 0, none⟩))]) ⟨u83, u84, u85, trivial⟩
    clear u83 u84 u85
    refine RL.perm rfl hL.symm ?_
    clear hL
    refine RL.fieldAddr rfl fd61_0 rfl ?_
    refine RL.nil ?_
    exact ⟨rfl, ⟨_, rfl, rfl⟩, .inr (.inr (.inl ⟨e10, e11, e14, trivial, b21, A3, cp3, Lr3, hp0, ⟨rfl, rfl, trivial⟩, List.Perm.refl _⟩))⟩
   exact hS.hi 14 rfl (by kernel_rfl) e14
  ·intro ρ L D hS
   rcases hS.sp with ⟨e10, e11, e14, -, hρ, hL⟩ | ⟨e10, e11, e14, -, b21, hρ, hL⟩ | ⟨e10, e11, e14, -, b21, A3, cp3, Lr3, hp0, hρ, hL⟩ | ⟨e10, e11, e14, -, b21, A3, cp3, Lr3, hp0, hρ, hL⟩
   ·exact hS.lo 10 (by kernel_rfl) e10
   ·exact hS.lo 11 (by kernel_rfl) e11
   ·have u83 : ρ 83 = .slice (some ⟨b21, 0, none⟩) 1 1 := hρ.1
    have u84 : ρ 84 = .slice A3 (g + 1) cp3 := hρ.2.1
    have u86 : ρ 86 = .pointer (some ⟨b1, 0 + 0, none⟩) := hS.dep ⟨13, Ground.data⟩ (by simp) rfl _ _ rfl rfl
    clear hS hρ
    obtain ⟨base, rfl⟩ := Has.base (ρ := ρ) (l := [(83, .slice (some ⟨b21, 0, none⟩) 1 1), (84, .slice A3 (g + 1) cp3), (86, .pointer (some ⟨b1, 0 + 0, none⟩))]) ⟨u83, u84, u86, trivial⟩
    clear u83 u84 u86
    refine RL.perm rfl hL.symm ?_
    clear hL
    refine RL.stS rfl rfl sc59.size rfl rfl (by simp) ?_
    refine RL.nil ?_
    exact ⟨rfl, ⟨_, rfl, trivial⟩, .inr (.inr (.inr (⟨e10, e11, rfl, trivial, b21, A3, cp3, Lr3, hp0, ⟨rfl, rfl, trivial⟩, (pmm fun _ _ z => by simp only [pm1, pm2, pm3, pm4, pm5, pm6, List.cons_append, List.nil_append] <;> omega)⟩)))⟩
   exact hS.me e14
  intro ρ L D hD hT hfix hsp
  rcases hsp with ⟨e10, e11, e14, -, hρ, hL⟩ | ⟨e10, e11, e14, -, b21, hρ, hL⟩ | ⟨e10, e11, e14, -, b21, A3, cp3, Lr3, hp0, hρ, hL⟩ | ⟨e10, e11, e14, -, b21, A3, cp3, Lr3, hp0, hρ, hL⟩
  ·exact done_no hD 10 rfl e10
  ·exact done_no hD 11 rfl e11
  ·exact done_no hD 14 rfl e14
  have u0 : ρ 0 = .slice A0 ms.length c0 := hfix 0 (by decide)
  have u6 : ρ 6 = .pointer (some ⟨b1, 0, none⟩) := hfix 6 (by decide)
  have u7 : ρ 7 = .int .i64 g := hfix 7 (by decide)
  have u83 : ρ 83 = .slice (some ⟨b21, 0, none⟩) 1 1 := hρ.1
  have u84 : ρ 84 = .slice A3 (g + 1) cp3 := hρ.2.1
  clear hT hfix hD hρ
  obtain ⟨base, rfl⟩ := Has.base (ρ := ρ) (l := [(0, .slice A0 ms.length c0), (6, .pointer (some ⟨b1, 0, none⟩)), (7, .int .i64 g), (83, .slice (some ⟨b21, 0, none⟩) 1 1), (84, .slice A3 (g + 1) cp3)]) ⟨u0, u6, u7, u83, u84, trivial⟩
  clear u0 u6 u7 u83 u84
  refine ⟨_, hL.symm, ((Lr3) ++ ([(b1, cel 61 [.slice A3 (g + 1) cp3, .int .i64 delay])])), List.Sublist.append (List.Sublist.refl _) (List.sublist_append_left _ _), ?_⟩
  refine X.blk ?_
  refine X.region rfl ?_
  refine RL.move rfl ?_
  refine RL.add rfl rfl rfl (by omega) ?_
  refine RL.assign rfl ?_
  refine RL.nil ?_
  refine X.hyp ⟨rfl, g + 1, by omega, _, (by repeat (first | exact sb0 _ | exact sb1 _ | (rw [List.append_nil]; exact sb0 _) | exact sb2 _ _ | exact sb3 _ _ _ | apply sb4 | apply sb5 | apply sb6)), A3, cp3, Lr3, by omega, hp0, fun j c hj hcj => by
      rcases Nat.lt_succ_iff_lt_or_eq.1 hj with h3 | rfl
      · exact hq j c h3 hcj
      · rw [hm] at hcj; obtain rfl := Option.some.inj hcj; exact hver, ⟨rfl, rfl, rfl, trivial⟩, rfl⟩
 replace hg : ¬ ((_ : Int) < _) := hg
 have hN : newP ms delay = 0 := newP_ok hd hl (fun j m hm => hq j m (by have := (List.getElem?_eq_some_iff.1 hm).1; omega) hm)
 have hge : g = ms.length := by omega
 subst hge
 obtain ⟨cb, junk, rfl, rfl⟩ := hrow.open (by omega)
 refine RL.perm rfl (List.Perm.swap _ _ _) ?_
 refine RL.nil ?_
 refine X.cond_f rfl ?_
 refine X.exit rfl ?_
 refine X.seq ?_
 refine X.region rfl ?_
 refine RL.move rfl ?_
 refine RL.assign rfl ?_
 refine RL.assign rfl ?_
 refine RL.nil ?_
 refine X.ret ?_
 refine ret2 rfl ?_
 show _ ∨ _
 exact .inr ⟨hN, b1, cb, cp, junk, rfl, by rw [List.take_of_length_le (by omega)]; exact List.Sublist.refl _⟩
theorem f_one (n : Int) (w : World) :
    Ctr Try.prog 11 [.int .u8 n] w [] fun v L => ∃ A cp, v = .agg #[.slice A (oneM n).length cp] ∧ ∃ Ls, ModO (oneM n) A cp Ls ∧ Ls.Sublist L := by
 refine Ctr.intro0 (n := 14) Try.func11 rfl Try.ntmps11 (Nat.le_of_ble_eq_true rfl) ?_
 refine X.seq ?_
 refine X.region rfl ?_
 refine RL.alloc rfl rfl zt30 ?_
 intro b0 hb0
 dsimp only at hb0
 refine RL.nil ?_
 refine X.seq ?_
 refine X.region rfl ?_
 refine RL.move rfl ?_
 refine RL.bldC (vs := [(0, .int .u8 n)]) (cells := [.int .u8 n, .int .u8 0, .int .u8 0, .int .u8 0, .int .u8 0, .int .u8 0, .int .u8 0, .int .u8 0, .int .u8 0, .int .u8 0, .int .u8 0, .int .u8 0, .int .u8 0, .int .u8 0, .int .u8 0, .int .u8 0]) rfl rfl (fun w => by kernel_rfl) ?_
 refine RL.bldC (vs := [(1, .int .i64 (-1))]) (cells := [.int .u8 0, .int .u8 0, .int .u8 0, .int .u8 0, .int .u8 0, .int .u8 0, .int .u8 0, .int .u8 0, .int .u8 0, .int .u8 0, .int .u8 0, .int .u8 0, .int .u8 0, .int .u8 0, .int .u8 0, .int .u8 0, .int .i64 (-1)]) rfl rfl (fun w => by kernel_rfl) ?_
 refine RL.bsC (vs := [(0, .agg ([.int .u8 0, .int .u8 0, .int .u8 0, .int .u8 0, .int .u8 0, .int .u8 0, .int .u8 0, .int .u8 0, .int .u8 0, .int .u8 0, .int .u8 0, .int .u8 0, .int .u8 0, .int .u8 0, .int .u8 0, .int .u8 0, .int .i64 (-1)] : List Value).toArray)]) (cells := [.int .u8 0, .int .u8 0, .int .u8 0, .int .u8 0, .int .u8 0, .int .u8 0, .int .u8 0, .int .u8 0, .int .u8 0, .int .u8 0, .int .u8 0, .int .u8 0, .int .u8 0, .int .u8 0, .int .u8 0, .int .u8 0, .int .i64 (-1)]) rfl rfl sl66 (fun w => let ⟨v, a, b⟩ := zt93; ⟨v, a, b w⟩) rfl rfl rfl (by kernel_rfl) ?_
 intro bf hbf
 refine RL.bldC (vs := [(0, .int .i64 2)]) (cells := [.int .i64 2, .int .i64 0, .int .i64 0]) rfl rfl (fun w => by kernel_rfl) ?_
 refine RL.bldC (vs := [(0, .int .i64 11)]) (cells := [.int .i64 11, .int .i64 0, .int .i64 0]) rfl rfl (fun w => by kernel_rfl) ?_
 refine RL.bsC (vs := [(0, .agg ([.int .i64 2, .int .i64 0, .int .i64 0] : List Value).toArray), (1, .agg ([.int .i64 11, .int .i64 0, .int .i64 0] : List Value).toArray)]) (cells := [.int .i64 2, .int .i64 0, .int .i64 0, .int .i64 11, .int .i64 0, .int .i64 0]) rfl rfl sl78 (fun w => let ⟨v, a, b⟩ := zt77; ⟨v, a, b w⟩) rfl rfl rfl (by kernel_rfl) ?_
 intro bi hbi
 refine RL.bsC (vs := [(0, .slice (some ⟨bi, 0, none⟩) 2 2)]) (cells := [.slice (some ⟨bi, 0, none⟩) 2 2]) rfl rfl sl67 (fun w => let ⟨v, a, b⟩ := zt78; ⟨v, a, b w⟩) rfl rfl rfl (by kernel_rfl) ?_
 intro bm hbm
 refine RL.bldC (vs := [(0, .agg ([.int .u8 n, .int .u8 0, .int .u8 0, .int .u8 0, .int .u8 0, .int .u8 0, .int .u8 0, .int .u8 0, .int .u8 0, .int .u8 0, .int .u8 0, .int .u8 0, .int .u8 0, .int .u8 0, .int .u8 0, .int .u8 0] : List Value).toArray), (1, .slice (some ⟨bf, 0, none⟩) 1 1), (3, .slice (some ⟨bm, 0, none⟩) 1 1)]) (cells := [.int .u8 n, .int .u8 0, .int .u8 0, .int .u8 0, .int .u8 0, .int .u8 0, .int .u8 0, .int .u8 0, .int .u8 0, .int .u8 0, .int .u8 0, .int .u8 0, .int .u8 0, .int .u8 0, .int .u8 0, .int .u8 0, .slice (some ⟨bf, 0, none⟩) 1 1, .int .i64 0, .slice (some ⟨bm, 0, none⟩) 1 1]) rfl rfl (fun w => by kernel_rfl) ?_
 refine RL.bsC (vs := [(0, .agg ([.int .u8 n, .int .u8 0, .int .u8 0, .int .u8 0, .int .u8 0, .int .u8 0, .int .u8 0, .int .u8 0, .int .u8 0, .int .u8 0, .int .u8 0, .int .u8 0, .int .u8 0, .int .u8 0, .int .u8 0, .int .u8 0, .slice (some ⟨bf, 0, none⟩) 1 1, .int .i64 0, .slice (some ⟨bm, 0, none⟩) 1 1] : List Value).toArray)]) (cells := [.int .u8 n, .int .u8 0, .int .u8 0, .int .u8 0, .int .u8 0, .int .u8 0, .int .u8 0, .int .u8 0, .int .u8 0, .int .u8 0, .int .u8 0, .int .u8 0, .int .u8 0, .int .u8 0, .int .u8 0, .int .u8 0, .slice (some ⟨bf, 0, none⟩) 1 1, .int .i64 0, .slice (some ⟨bm, 0, none⟩) 1 1]) rfl rfl sl28 (fun w => let ⟨v, a, b⟩ := zt69; ⟨v, a, b w⟩) rfl rfl rfl (by kernel_rfl) ?_
 intro bc hbc
 refine RL.bldC (vs := [(0, .slice (some ⟨bc, 0, none⟩) 1 1)]) (cells := [.slice (some ⟨bc, 0, none⟩) 1 1]) rfl rfl (fun w => by kernel_rfl) ?_
 refine RL.stA rfl rfl ag30.size rfl rfl rfl rfl (by simp [Value.oneCell']) ?_
 refine RL.nil ?_
 refine X.ret ?_
 refine RetQ.perm (L' := [(bc, cel 69 ([.int .u8 n, .int .u8 0, .int .u8 0, .int .u8 0, .int .u8 0, .int .u8 0, .int .u8 0, .int .u8 0, .int .u8 0, .int .u8 0, .int .u8 0, .int .u8 0, .int .u8 0, .int .u8 0, .int .u8 0, .int .u8 0, .slice (some ⟨bf, 0, none⟩) 1 1, .int .i64 0, .slice (some ⟨bm, 0, none⟩) 1 1] ++ []))] ++ ([(bf, cel 93 ([.int .u8 0, .int .u8 0, .int .u8 0, .int .u8 0, .int .u8 0, .int .u8 0, .int .u8 0, .int .u8 0, .int .u8 0, .int .u8 0, .int .u8 0, .int .u8 0, .int .u8 0, .int .u8 0, .int .u8 0, .int .u8 0, .int .i64 (-1)] ++ []))] ++ ([(bm, cel 78 ([.slice (some ⟨bi, 0, none⟩) 2 2] ++ []))] ++ ([(bi, cel 77 ([.int .i64 2, .int .i64 0, .int .i64 0, .int .i64 11, .int .i64 0, .int .i64 0] ++ []))] ++ [(b0, cel 30 [.slice (some ⟨bc, 0, none⟩) 1 1])])))) (by classical exact List.perm_iff_count.2 (fun z => by simp only [List.count_append, List.count_cons, List.count_nil, List.cons_append, List.nil_append, List.set_cons_zero, List.set_cons_succ] <;> omega)) ?_
 refine retcA1 rfl ag30 rfl rfl ⟨some ⟨bc, 0, none⟩, 1, rfl, _, ⟨[[.int .u8 n, .int .u8 0, .int .u8 0, .int .u8 0, .int .u8 0, .int .u8 0, .int .u8 0, .int .u8 0, .int .u8 0, .int .u8 0, .int .u8 0, .int .u8 0, .int .u8 0, .int .u8 0, .int .u8 0, .int .u8 0, .slice (some ⟨bf, 0, none⟩) 1 1, .int .i64 0, .slice (some ⟨bm, 0, none⟩) 1 1]], _, _, Row.blk bc 1 1 [.int .u8 n, .int .u8 0, .int .u8 0, .int .u8 0, .int .u8 0, .int .u8 0, .int .u8 0, .int .u8 0, .int .u8 0, .int .u8 0, .int .u8 0, .int .u8 0, .int .u8 0, .int .u8 0, .int .u8 0, .int .u8 0, .slice (some ⟨bf, 0, none⟩) 1 1, .int .i64 0, .slice (some ⟨bm, 0, none⟩) 1 1] [] rfl rfl (Nat.le_refl _), ClsO.snoc ClsO.nil ⟨rfl, ?_, some ⟨bf, 0, none⟩, 1, some ⟨bm, 0, none⟩, 1, [.slice (some ⟨bi, 0, none⟩) 2 2], _, _, _, rfl, Row.blk bf 1 1 [.int .u8 0, .int .u8 0, .int .u8 0, .int .u8 0, .int .u8 0, .int .u8 0, .int .u8 0, .int .u8 0, .int .u8 0, .int .u8 0, .int .u8 0, .int .u8 0, .int .u8 0, .int .u8 0, .int .u8 0, .int .u8 0, .int .i64 (-1)] [] rfl rfl (Nat.le_refl _), Row.blk bm 1 1 [.slice (some ⟨bi, 0, none⟩) 2 2] [] rfl rfl (Nat.le_refl _), MsO.snoc MsO.nil (Row.blk bi 2 2 [.int .i64 2, .int .i64 0, .int .i64 0, .int .i64 11, .int .i64 0, .int .i64 0] [] rfl rfl (Nat.le_refl _)), rfl⟩, rfl⟩, ?_⟩
 · intro f hf
   replace hf : f ∈ smF := hf
   simp only [smF, List.mem_singleton] at hf
   subst hf; rfl
 · exact List.sublist_append_left [(bc, cel 69 ([.int .u8 n, .int .u8 0, .int .u8 0, .int .u8 0, .int .u8 0, .int .u8 0, .int .u8 0, .int .u8 0, .int .u8 0, .int .u8 0, .int .u8 0, .int .u8 0, .int .u8 0, .int .u8 0, .int .u8 0, .int .u8 0, .slice (some ⟨bf, 0, none⟩) 1 1, .int .i64 0, .slice (some ⟨bm, 0, none⟩) 1 1] ++ [])), (bf, cel 93 ([.int .u8 0, .int .u8 0, .int .u8 0, .int .u8 0, .int .u8 0, .int .u8 0, .int .u8 0, .int .u8 0, .int .u8 0, .int .u8 0, .int .u8 0, .int .u8 0, .int .u8 0, .int .u8 0, .int .u8 0, .int .u8 0, .int .i64 (-1)] ++ [])), (bm, cel 78 ([.slice (some ⟨bi, 0, none⟩) 2 2] ++ [])), (bi, cel 77 ([.int .i64 2, .int .i64 0, .int .i64 0, .int .i64 11, .int .i64 0, .int .i64 0] ++ []))] [(b0, cel 30 [.slice (some ⟨bc, 0, none⟩) 1 1])]
set_option maxHeartbeats 1000000 in
set_option maxRecDepth 10000 in
theorem f_class (i k : Int) (ms : List (List Cl)) (hB : MsB ms) (hok : ∀ m ∈ ms, (mcheckP m).2 = 0) (rb : Nat) (delay : Int) (xs : List Ms) (ss : List Mv) (w : World) (h : RegR w rb delay xs ss) (hst : StaM w xs ms) : Ctr Try.prog 27 [.pointer (some ⟨rb, 0, none⟩), .int .i64 i, .int .i64 k] w [] fun v L => (∃ cl cs Lc, getC ms i k = some cl ∧ v = .tuple #[.agg cs.toArray, .int .i64 0] ∧ ClO cl cs Lc ∧ Lc.Sublist L) ∨ (getC ms i k = none ∧ v = .tuple #[.agg ([.int .u8 0, .int .u8 0, .int .u8 0, .int .u8 0, .int .u8 0, .int .u8 0, .int .u8 0, .int .u8 0, .int .u8 0, .int .u8 0, .int .u8 0, .int .u8 0, .int .u8 0, .int .u8 0, .int .u8 0, .int .u8 0, .slice none 0 0, .int .i64 0, .slice none 0 0] : List Value).toArray, .int .i64 8]) := by
 have hlx := hst.len
 have hls := h.len
 refine Ctr.intro0 (n := 44) Try.func27 rfl Try.ntmps27 (Nat.le_of_ble_eq_true rfl) ?_
 refine X.seq ?_
 refine X.region rfl ?_
 refine RL.alloc rfl rfl zt69 ?_
 intro b6 hb6
 dsimp only at hb6
 refine RL.assign rfl ?_
 refine RL.nil ?_
 refine X.seq ?_
 refine X.region rfl ?_
 refine RL.move rfl ?_
 refine RL.move rfl ?_
 refine RL.fn0 rfl rfl rfl en32 (fun w hw => (f_mod i rb delay xs ss w (h.st0 hw))) rfl ?_
 rintro _ _ rfl
 refine RL.drop rfl (List.sublist_append_right _ _) ?_
 refine RL.assign rfl ?_
 refine RL.nil ?_
 refine X.seq ?_
 refine X.seq ?_
 refine X.region rfl ?_
 refine RL.move rfl ?_
 rcases hg : getM xs i with _ | x
 ·have hgc : getC ms i k = none := by
    unfold getM at hg; unfold getC
    split
    · rfl
    · rename_i h0; rw [if_neg h0, List.getElem?_eq_none_iff] at hg; rw [List.getElem?_eq_none (by omega)]; rfl
  refine RL.eqP rfl Try.underlying89 rfl rfl rfl ?_
  refine RL.move rfl ?_
  refine RL.skip rfl ?_
  refine RL.skip rfl ?_
  refine RL.pick_t rfl rfl ?_
  refine RL.move rfl ?_
  refine RL.skip rfl ?_
  refine RL.skip rfl ?_
  refine RL.skip rfl ?_
  refine RL.skip rfl ?_
  refine RL.skip rfl ?_
  refine RL.skip rfl ?_
  refine RL.skip rfl ?_
  refine RL.skip rfl ?_
  refine RL.pick_t rfl rfl ?_
  refine RL.nil ?_
  refine X.cond_t rfl ?_
  refine X.seq ?_
  refine X.region rfl ?_
  refine RL.bldC (vs := []) (cells := [.int .u8 0, .int .u8 0, .int .u8 0, .int .u8 0, .int .u8 0, .int .u8 0, .int .u8 0, .int .u8 0, .int .u8 0, .int .u8 0, .int .u8 0, .int .u8 0, .int .u8 0, .int .u8 0, .int .u8 0, .int .u8 0, .slice none 0 0, .int .i64 0, .slice none 0 0]) rfl rfl (fun w => by kernel_rfl) ?_
  refine RL.stA rfl rfl ag69.size rfl rfl rfl rfl (by simp [Value.oneCell']) ?_
  refine RL.assign rfl ?_
  refine RL.nil ?_
  refine X.ret ?_
  exact retcA2 rfl ag69 rfl rfl (.inr ⟨hgc, rfl⟩)
 obtain ⟨j, s, rfl, hx, hs, hgs⟩ := getS_at hls hg
 obtain ⟨m, hm⟩ : ∃ m, ms[j]? = some m := ⟨_, List.getElem?_eq_getElem (by have := (List.getElem?_eq_some_iff.1 hx).1; omega)⟩
 obtain ⟨Af, cf, Am, cm, hvf, hrf, hcf, hn2, hvm, hmr⟩ := hst.get j x m hx hm
 have hc := h.mods j x s hx hs
 have hv0 := hok m (List.mem_of_getElem? hm)
 have hcb := hB m (List.mem_of_getElem? hm)
 have hid := mod_ids hmr
 have hv1 : w.cell? ⟨x.b, 0 + 0, none⟩ = some (.slice Af (encP m).length cf) := by rw [← hvf]; exact hc 0 _ rfl
 have hv2 : w.cell? ⟨x.b, 0 + 1 + 0, none⟩ = some (.slice Am m.length cm) := by rw [← hvm]; exact hc 1 _ rfl
 refine RL.eqP rfl Try.underlying89 rfl rfl rfl ?_
 refine RL.move rfl ?_
 refine RL.move rfl ?_
 refine RL.cmp_s rfl rfl rfl rfl (fun h1 => ?_) (fun h1 => ?_)
 ·replace h1 : (_ : Int) < _ := h1
  refine RL.pick_f rfl rfl ?_
  refine RL.move rfl ?_
  refine RL.skip rfl ?_
  refine RL.skip rfl ?_
  refine RL.skip rfl ?_
  refine RL.skip rfl ?_
  refine RL.skip rfl ?_
  refine RL.skip rfl ?_
  refine RL.skip rfl ?_
  refine RL.skip rfl ?_
  refine RL.pick_t rfl rfl ?_
  refine RL.nil ?_
  refine X.cond_t rfl ?_
  refine X.seq ?_
  refine X.region rfl ?_
  refine RL.bldC (vs := []) (cells := [.int .u8 0, .int .u8 0, .int .u8 0, .int .u8 0, .int .u8 0, .int .u8 0, .int .u8 0, .int .u8 0, .int .u8 0, .int .u8 0, .int .u8 0, .int .u8 0, .int .u8 0, .int .u8 0, .int .u8 0, .int .u8 0, .slice none 0 0, .int .i64 0, .slice none 0 0]) rfl rfl (fun w => by kernel_rfl) ?_
  refine RL.stA rfl rfl ag69.size rfl rfl rfl rfl (by simp [Value.oneCell']) ?_
  refine RL.assign rfl ?_
  refine RL.nil ?_
  refine X.ret ?_
  exact retcA2 rfl ag69 rfl rfl (.inr ⟨getC_k (by simpa using hm) (.inl h1), rfl⟩)
 replace h1 : ¬ ((_ : Int) < _) := h1
 refine RL.pick_f rfl rfl ?_
 refine RL.move rfl ?_
 refine RL.move rfl ?_
 refine RL.move rfl ?_
 refine RL.nilCheck rfl rfl ?_
 refine RL.fieldAddr rfl fd91_1 rfl ?_
 refine RL.fieldAddr rfl fd30_0 rfl ?_
 refine RL.loadI rfl sc28 rfl hv2 (by simp) ?_
 refine RL.len rfl sl28 rfl ?_
 refine RL.cmp_s rfl rfl rfl rfl (fun h2 => ?_) (fun h2 => ?_)
 ·replace h2 : (_ : Int) ≥ _ := h2
  refine RL.pick_f rfl rfl ?_
  refine RL.nil ?_
  refine X.cond_t rfl ?_
  refine X.seq ?_
  refine X.region rfl ?_
  refine RL.bldC (vs := []) (cells := [.int .u8 0, .int .u8 0, .int .u8 0, .int .u8 0, .int .u8 0, .int .u8 0, .int .u8 0, .int .u8 0, .int .u8 0, .int .u8 0, .int .u8 0, .int .u8 0, .int .u8 0, .int .u8 0, .int .u8 0, .int .u8 0, .slice none 0 0, .int .i64 0, .slice none 0 0]) rfl rfl (fun w => by kernel_rfl) ?_
  refine RL.stA rfl rfl ag69.size rfl rfl rfl rfl (by simp [Value.oneCell']) ?_
  refine RL.assign rfl ?_
  refine RL.nil ?_
  refine X.ret ?_
  exact retcA2 rfl ag69 rfl rfl (.inr ⟨getC_k (by simpa using hm) (.inr (by omega)), rfl⟩)
 replace h2 : ¬ ((_ : Int) ≥ _) := h2
 obtain ⟨q, rfl⟩ : ∃ q : Nat, k = (q : Int) := ⟨k.toNat, by omega⟩
 obtain ⟨cl, hcl⟩ : ∃ cl, m[q]? = some cl := ⟨_, List.getElem?_eq_getElem (by omega)⟩
 refine RL.pick_f rfl rfl ?_
 refine RL.nil ?_
 refine X.cond_f rfl ?_
 refine X.skip ?_
 refine X.seq ?_
 refine X.region rfl ?_
 refine RL.move rfl ?_
 refine RL.nilCheck rfl rfl ?_
 refine RL.fieldAddr rfl fd91_0 rfl ?_
 refine RL.loadI rfl sc84 rfl hv1 (by simp) ?_
 refine RL.fn (Lp := []) (Lr := [(b6, cel 69 [.int .u8 0, .int .u8 0, .int .u8 0, .int .u8 0, .int .u8 0, .int .u8 0, .int .u8 0, .int .u8 0, .int .u8 0, .int .u8 0, .int .u8 0, .int .u8 0, .int .u8 0, .int .u8 0, .int .u8 0, .int .u8 0, .slice none 0 0, .int .i64 0, .slice none 0 0])]) rfl rfl rfl en31 (List.Perm.refl _) (fun w1 hw1 => f_decode (encP m) Af cf w1 (hrf.st0 hw1) hcf (by omega) (encP_byt hcb)) rfl ?_
 rintro _ Lz (⟨m9, Am2, cm2, Lm, hdm, rfl, hmo, hsub⟩ | ⟨hdm, rfl⟩)
 rotate_left
 · rw [dec_back hid hv0] at hdm; cases hdm
 obtain rfl : m = m9 := by rw [dec_back hid hv0] at hdm; exact Option.some.inj hdm
 refine RL.drop (L' := Lm ++ [(b6, cel 69 [.int .u8 0, .int .u8 0, .int .u8 0, .int .u8 0, .int .u8 0, .int .u8 0, .int .u8 0, .int .u8 0, .int .u8 0, .int .u8 0, .int .u8 0, .int .u8 0, .int .u8 0, .int .u8 0, .int .u8 0, .int .u8 0, .slice none 0 0, .int .i64 0, .slice none 0 0])]) rfl (List.Sublist.append hsub (List.Sublist.refl _)) ?_
 refine RL.move rfl ?_
 refine RL.extract rfl rfl rfl ?_
 refine RL.extract rfl rfl rfl ?_
 refine RL.alloc rfl rfl zt30 ?_
 intro b9 hb9
 dsimp only at hb9
 refine RL.stA rfl rfl ag30.size rfl rfl rfl rfl (by simp [Value.oneCell']) ?_
 refine RL.assign rfl ?_
 refine RL.nil ?_
 refine X.seq ?_
 refine X.region rfl ?_
 refine RL.fieldAddr rfl fd30_0 rfl ?_
 refine RL.loadO rfl sc28 rfl rfl ?_
 refine RL.move rfl ?_
 obtain ⟨css, Lr0, Ls, hrow0, hcls, rfl⟩ := hmo
 obtain ⟨ab, junk, rfl, rfl⟩ := hrow0.open (by have := (List.getElem?_eq_some_iff.1 hcl).1; omega)
 obtain ⟨cs, Lc, hcs, hco, hlc⟩ := hcls.get hcl
 refine RL.indexAddr rfl sl28 rfl rfl rfl rfl (by omega) ?_
 refine RL.loadOA rfl ag69 rfl (by rw [Nat.zero_add]; exact flat_at19 hcls.all hcs) hco.len ?_
 refine RL.stA rfl rfl ag69.size rfl rfl hco.len rfl hco.one ?_
 refine RL.assign rfl ?_
 refine RL.nil ?_
 refine X.ret ?_
 exact retcA2 (l := cs) rfl ag69 rfl hco.len (.inl ⟨cl, cs, Lc, by rw [getC_at hm]; exact hcl, rfl, hco, (hlc.trans (List.sublist_append_right _ _)).trans ((List.sublist_append_left _ _).trans (List.sublist_cons_self _ _))⟩)
theorem f_class0 (i k : Int) (w : World) : Ctr Try.prog 27 [.pointer none, .int .i64 i, .int .i64 k] w [] fun v L => v = .tuple #[.agg ([.int .u8 0, .int .u8 0, .int .u8 0, .int .u8 0, .int .u8 0, .int .u8 0, .int .u8 0, .int .u8 0, .int .u8 0, .int .u8 0, .int .u8 0, .int .u8 0, .int .u8 0, .int .u8 0, .int .u8 0, .int .u8 0, .slice none 0 0, .int .i64 0, .slice none 0 0] : List Value).toArray, .int .i64 8] := by
 refine Ctr.intro0 (n := 44) Try.func27 rfl Try.ntmps27 (Nat.le_of_ble_eq_true rfl) ?_
 refine X.seq ?_
 refine X.region rfl ?_
 refine RL.alloc rfl rfl zt69 ?_
 intro b6 hb6
 dsimp only at hb6
 refine RL.assign rfl ?_
 refine RL.nil ?_
 refine X.seq ?_
 refine X.region rfl ?_
 refine RL.move rfl ?_
 refine RL.move rfl ?_
 refine RL.fn0 rfl rfl rfl en32 (fun w hw => (f_mod0 i w)) rfl ?_
 rintro _ _ rfl
 refine RL.drop rfl (List.sublist_append_right _ _) ?_
 refine RL.assign rfl ?_
 refine RL.nil ?_
 refine X.seq ?_
 refine X.seq ?_
 refine X.region rfl ?_
 refine RL.move rfl ?_
 refine RL.eqP rfl Try.underlying89 rfl rfl rfl ?_
 refine RL.move rfl ?_
 refine RL.skip rfl ?_
 refine RL.skip rfl ?_
 refine RL.pick_t rfl rfl ?_
 refine RL.move rfl ?_
 refine RL.skip rfl ?_
 refine RL.skip rfl ?_
 refine RL.skip rfl ?_
 refine RL.skip rfl ?_
 refine RL.skip rfl ?_
 refine RL.skip rfl ?_
 refine RL.skip rfl ?_
 refine RL.skip rfl ?_
 refine RL.pick_t rfl rfl ?_
 refine RL.nil ?_
 refine X.cond_t rfl ?_
 refine X.seq ?_
 refine X.region rfl ?_
 refine RL.bldC (vs := []) (cells := [.int .u8 0, .int .u8 0, .int .u8 0, .int .u8 0, .int .u8 0, .int .u8 0, .int .u8 0, .int .u8 0, .int .u8 0, .int .u8 0, .int .u8 0, .int .u8 0, .int .u8 0, .int .u8 0, .int .u8 0, .int .u8 0, .slice none 0 0, .int .i64 0, .slice none 0 0]) rfl rfl (fun w => by kernel_rfl) ?_
 refine RL.stA rfl rfl ag69.size rfl rfl rfl rfl (by simp [Value.oneCell']) ?_
 refine RL.assign rfl ?_
 refine RL.nil ?_
 refine X.ret ?_
 exact retcA2 rfl ag69 rfl rfl rfl
end Go.Proofs.Ytnebpklmbefmfaa

/- The law: there and back. -/
import Derived.Test.YtdnnnbjmjjdcfaaE3
import Derived.Test.YtdnnnbjmjjdcfaaBack
set_option linter.unusedVariables false
set_option linter.unusedSimpArgs false
namespace Go.Proofs.Ytdnnnbjmjjdcfaa
open Go.RowKit
attribute [local irreducible] X RL W Ctr
theorem mod_ids {w : World} {m : List Cl} {A : Option Addr} (h : ModR w m A) : ∀ c ∈ m, c.id.length = 16 ∧ ∀ f ∈ c.faces, FaceOk f := by
  obtain ⟨css, h1, h2, h3⟩ := h
  intro c hc
  obtain ⟨i, hi⟩ := List.getElem?_of_mem hc
  obtain ⟨cs, h4, h5⟩ := h3 i c hi
  exact ⟨h5.id, h5.ok⟩
theorem f_pick10 (x n : Int) (w : World) (hn : n ≤ 100000) (hn0 : -1000 ≤ n) : Ctr Try.prog 22 [.int .i64 x, .int .i64 n] w [] fun v _ => v = .int .i64 (if n < 1 then 0 else x % n) := by
 refine Ctr.intro0 (n := 17) Try.func22 rfl Try.ntmps22 (Nat.le_of_ble_eq_true rfl) ?_
 refine X.seq ?_
 refine X.region rfl ?_
 refine RL.assign rfl ?_
 refine RL.nil ?_
 refine X.seq ?_
 refine X.seq ?_
 refine X.region rfl ?_
 refine RL.move rfl ?_
 refine RL.cmp_s rfl rfl rfl rfl (fun h => ?_) (fun h => ?_)
 ·replace h : (_ : Int) < _ := h
  refine RL.nil ?_
  refine X.cond_t rfl ?_
  refine X.seq ?_
  refine X.region rfl ?_
  refine RL.assign rfl ?_
  refine RL.nil ?_
  refine X.ret ?_
  refine ret1 rfl ?_
  show (_ : Value) = _
  rw [if_pos h]
 ·replace h : ¬ ((_ : Int) < _) := h
  have e1 := Int.emod_nonneg x (show n ≠ 0 by omega)
  have e2 := Int.emod_lt_of_pos x (show 0 < n by omega)
  have e3 : x.tmod n = if x % n = 0 ∨ 0 ≤ x then x % n else x % n - n := by
    rw [Int.tmod_eq_emod]
    have e4 : (n ∣ x) ↔ x % n = 0 := Int.dvd_iff_emod_eq_zero
    have e5 : (n.natAbs : Int) = n := by omega
    by_cases g1 : 0 ≤ x <;> by_cases g2 : x % n = 0 <;> simp [g1, g2, e4, e5]
  refine RL.nil ?_
  refine X.cond_f rfl ?_
  refine X.skip ?_
  refine X.seq ?_
  refine X.region rfl ?_
  refine RL.move rfl ?_
  refine RL.move rfl ?_
  refine RL.rem rfl rfl rfl (by omega) ?_
  refine RL.assign rfl ?_
  refine RL.nil ?_
  refine X.seq ?_
  refine X.seq ?_
  refine X.region rfl ?_
  refine RL.move rfl ?_
  refine RL.cmp_s rfl rfl rfl rfl (fun g => ?_) (fun g => ?_)
  ·replace g : (_ : Int) < _ := g
   refine RL.nil ?_
   refine X.cond_t rfl ?_
   refine X.region rfl ?_
   refine RL.move rfl ?_
   refine RL.move rfl ?_
   refine RL.add rfl rfl rfl (by rw [e3] at g ⊢; split <;> omega) ?_
   refine RL.assign rfl ?_
   refine RL.nil ?_
   refine X.seq ?_
   refine X.region rfl ?_
   refine RL.move rfl ?_
   refine RL.assign rfl ?_
   refine RL.nil ?_
   refine X.ret ?_
   refine ret1 rfl ?_
   show (_ : Value) = _
   rw [if_neg (by omega)]
   congr 1
   rw [e3] at g ⊢
   split at g <;> simp_all <;> omega
  ·replace g : ¬ ((_ : Int) < _) := g
   refine RL.nil ?_
   refine X.cond_f rfl ?_
   refine X.skip ?_
   refine X.seq ?_
   refine X.region rfl ?_
   refine RL.move rfl ?_
   refine RL.assign rfl ?_
   refine RL.nil ?_
   refine X.ret ?_
   refine ret1 rfl ?_
   show (_ : Value) = _
   rw [if_neg (by omega)]
   congr 1
   rw [e3] at g ⊢
   split at g <;> simp_all <;> omega
theorem f_copy (xs : List Int) (hlen : xs.length ≤ 100000) (A : Option Addr) (c : Nat) (w : World) (h : Rd w A (gcells xs)) :
    Ctr Try.prog 23 [.slice A xs.length c] w [] fun v L => ∃ A2 cp2 Lr, v = .slice A2 xs.length cp2 ∧ Row 5 1 (.slice A2 (xs.length) cp2) (gcells (xs)) Lr ∧ Lr.Sublist L := by
 obtain ⟨bb, oo, hA0, hc⟩ := h
 have hA : 0 < xs.length → A = some ⟨bb, oo, none⟩ := fun h => hA0 (by rw [gcells_len]; omega)
 refine Ctr.intro0 (n := 19) Try.func23 rfl Try.ntmps23 (Nat.le_of_ble_eq_true rfl) ?_
 refine X.seq ?_
 refine X.region rfl ?_
 refine RL.assign rfl ?_
 refine RL.nil ?_
 refine X.seq ?_
 refine X.region rfl ?_
 refine RL.assign rfl ?_
 refine RL.nil ?_
 refine X.seq ?_
 refine X.seq ?_
 refine X.region rfl ?_
 refine RL.assign rfl ?_
 refine RL.nil ?_
 refine X.block ?_
 refine X.loop (γ := Nat) (fun g ρ L => ∃ A2 : Option Addr, ∃ cp2 : Nat, ∃ Lr : List Ent, (g ≤ xs.length) ∧ (Row 5 1 (.slice A2 (g) cp2) (gcells (xs.take g)) Lr) ∧ Has ρ [(0, .slice A xs.length c), (3, .slice A2 g cp2), (4, .int .i64 g)] ∧ L = Lr ++ []) (fun g => xs.length - g) (0) ⟨_, (by repeat (first | exact List.Sublist.refl _ | exact List.nil_sublist _ | (rw [List.append_nil]; exact List.Sublist.refl _) | exact List.sublist_append_left _ _ | exact (List.sublist_append_left _ _).trans (List.sublist_append_left _ _) | apply List.Sublist.cons_cons | apply List.Sublist.cons | refine List.Sublist.trans ?_ (List.sublist_append_right _ _))), none, 0, [], Nat.zero_le _, Row.nil, ⟨rfl, rfl, rfl, trivial⟩, rfl⟩ ?_
 rintro g _ _ ⟨A2, cp2, Lr, hg0, hr, hρ, rfl⟩
 obtain ⟨base, rfl⟩ := hρ.base
 clear hρ
 refine X.seq ?_
 refine X.seq ?_
 refine X.region rfl ?_
 refine RL.move rfl ?_
 refine RL.move rfl ?_
 refine RL.len rfl sl40 rfl ?_
 refine RL.cmp_s rfl rfl rfl rfl (fun hlt => ?_) (fun hlt => ?_)
 ·replace hlt : (_ : Int) < _ := hlt
  obtain ⟨x, hx⟩ : ∃ x, xs[g]? = some x := ⟨_, List.getElem?_eq_getElem (by omega)⟩
  have hx2 : (gcells xs)[g]? = some (.int .u8 x) := by simp only [gcells, List.getElem?_map, hx]; rfl
  obtain ⟨hgl, ex⟩ := List.getElem?_eq_some_iff.1 hx
  refine RL.nil ?_
  refine X.cond_t rfl ?_
  refine X.skip ?_
  refine X.seq ?_
  refine X.block ?_
  refine X.region rfl ?_
  refine RL.move rfl ?_
  refine RL.move rfl ?_
  refine RL.move rfl ?_
  refine RL.indexAddr rfl sl40 rfl rfl (hA (by omega)) rfl (by omega) ?_
  refine RL.loadI rfl sc5 rfl (by rw [Nat.mul_one]; exact hc g _ hx2) (by simp) ?_
  refine RL.bs1U rfl rfl sl40 zt5 rfl ?_
  intro bb1 hbb1
  refine RL.appB (Lr := Lr) (Lz := (bb1, cel 5 (gcells ([x]))) :: []) (xs := gcells (xs.take g)) (ys := gcells ([x])) (N := g + 1) rfl rfl sl40 el_u8 (by decide) (by decide) Try.underlying40 rfl hr rfl List.perm_middle.symm List.mem_cons_self rfl (gcells_one _) (by omega) rfl ?_
  intro A1 cp1 Lr1 hr1
  rw [← gcells_app] at hr1
  refine RL.drop (L' := Lr1 ++ []) rfl (List.Sublist.append (List.Sublist.refl _) (List.sublist_cons_self _ _)) ?_
  refine RL.assign rfl ?_
  refine RL.nil ?_
  refine X.blk ?_
  refine X.region rfl ?_
  refine RL.move rfl ?_
  refine RL.add rfl rfl rfl (by omega) ?_
  refine RL.assign rfl ?_
  refine RL.nil ?_
  refine X.hyp ⟨rfl, g + 1, by omega, _, (by repeat (first | exact List.Sublist.refl _ | exact List.nil_sublist _ | (rw [List.append_nil]; exact List.Sublist.refl _) | exact List.sublist_append_left _ _ | exact (List.sublist_append_left _ _).trans (List.sublist_append_left _ _) | apply List.Sublist.cons_cons | apply List.Sublist.cons | refine List.Sublist.trans ?_ (List.sublist_append_right _ _))), A1, cp1, Lr1, by omega, (by rw [List.take_succ_eq_append_getElem hgl, ex]; exact hr1), ⟨rfl, rfl, rfl, trivial⟩, rfl⟩
 ·replace hlt : ¬ ((_ : Int) < _) := hlt
  have hgg : g = xs.length := by omega
  subst hgg
  rw [List.take_length] at hr
  refine RL.nil ?_
  refine X.cond_f rfl ?_
  refine X.exit rfl ?_
  refine X.seq ?_
  refine X.region rfl ?_
  refine RL.move rfl ?_
  refine RL.assign rfl ?_
  refine RL.nil ?_
  refine X.ret ?_
  exact ret1 rfl ⟨A2, cp2, Lr, rfl, hr, by simp⟩
set_option maxHeartbeats 1000000 in
set_option maxRecDepth 10000 in
theorem w_back (m : List Cl) (A : Option Addr) (n : Nat) (w : World) (hm : ModR w m A) (hcb : ∀ c ∈ m, ClB c) (cut more : Int) (hmore : 0 ≤ more ∧ more ≤ 255) :
    Ctr Try.prog 6 [.agg #[.slice A m.length n], .int .i64 cut, .int .u8 more] w [] fun v _ => v = .bool true := by
 have hidm : ∀ c ∈ m, c.id.length = 16 ∧ ∀ f ∈ c.faces, FaceOk f := mod_ids hm
 have hm1 := hm
 obtain ⟨bb, oo, hA, hc⟩ := hm.open
 refine Ctr.intro0 (n := 67) Try.func6 rfl Try.ntmps6 (Nat.le_of_ble_eq_true rfl) ?_
 refine X.seq ?_
 refine X.region rfl ?_
 refine RL.boxA rfl rfl rfl ?_
 intro b1 hb1
 dsimp only at hb1
 refine RL.assign rfl ?_
 refine RL.nil ?_
 refine X.seq ?_
 refine X.seq ?_
 refine X.region rfl ?_
 refine RL.loadOA rfl ag24 rfl (show List.take 1 (List.drop 0 [.slice A m.length n]) = [.slice A m.length n] from rfl) rfl ?_
 refine RL.fn (Lp := []) (Lr := [(b1, cel 24 [.slice A m.length n])]) rfl rfl rfl en8 (List.Perm.refl _) (fun w1 hw1 => f_great m A n w1 (hm1.st0 hw1)) rfl ?_
 rintro _ Lz ⟨q, rfl, hq⟩
 refine RL.drop (L' := [(b1, cel 24 [.slice A m.length n])]) rfl (List.sublist_append_right _ _) ?_
 cases q
 rotate_left
 ·refine RL.nil ?_
  refine X.cond_t rfl ?_
  refine X.seq ?_
  refine X.region rfl ?_
  refine RL.fn0 rfl rfl rfl en9 (fun w hw => (f_awake w)) rfl ?_
  rintro _ _ rfl
  refine RL.assign rfl ?_
  refine RL.nil ?_
  refine X.ret ?_
  exact ret1 rfl rfl
 ·obtain ⟨hl12, hsz⟩ := hq rfl
  have hlen : m.length ≤ 1000 := by omega
  refine RL.nil ?_
  refine X.cond_f rfl ?_
  refine X.skip ?_
  refine X.seq ?_
  refine X.region rfl ?_
  refine RL.loadOA rfl ag24 rfl (show List.take 1 (List.drop 0 [.slice A m.length n]) = [.slice A m.length n] from rfl) rfl ?_
  refine RL.fn (Lp := []) (Lr := [(b1, cel 24 [.slice A m.length n])]) rfl rfl rfl en14 (List.Perm.refl _) (fun w1 hw1 => f_encode m hsz hlen A n w1 (hm1.st0 hw1)) rfl ?_
  rintro _ Lz hz
  by_cases hv : (mcheckP m).2 = 0
  rotate_left
  ·rw [if_neg hv] at hz
   subst hz
   refine RL.drop (L' := [(b1, cel 24 [.slice A m.length n])]) rfl (List.sublist_append_right _ _) ?_
   refine RL.move rfl ?_
   refine RL.extract rfl rfl rfl ?_
   refine RL.extract rfl rfl rfl ?_
   refine RL.assign rfl ?_
   refine RL.assign rfl ?_
   refine RL.nil ?_
   refine X.seq ?_
   refine X.seq ?_
   refine X.region rfl ?_
   refine RL.move rfl ?_
   refine RL.cmp_t rfl rfl rfl rfl (by show ((_ : Int) ≠ _); exact hv) ?_
   refine RL.nil ?_
   refine X.cond_t rfl ?_
   refine X.seq ?_
   refine X.region rfl ?_
   refine RL.fn0 rfl rfl rfl en9 (fun w hw => (f_awake w)) rfl ?_
   rintro _ _ rfl
   refine RL.assign rfl ?_
   refine RL.nil ?_
   refine X.ret ?_
   exact ret1 rfl rfl
  ·rw [if_pos hv] at hz
   obtain ⟨A2, n2, cp2, Lr2, rfl, hr2, hs2, hn2⟩ := hz
   obtain ⟨hl2, hcp2⟩ := row_len hr2
   rw [gcells_len] at hl2
   subst hl2
   refine RL.drop (L' := Lr2 ++ ([(b1, cel 24 [.slice A m.length n])])) rfl (List.Sublist.append hs2 (List.Sublist.refl _)) ?_
   have hbyt := encP_byt hcb
   have hpos : 1 ≤ (encP m).length := by unfold encP; simp
   have hback := dec_back hidm hv
   refine RL.move rfl ?_
   refine RL.extract rfl rfl rfl ?_
   refine RL.extract rfl rfl rfl ?_
   refine RL.assign rfl ?_
   refine RL.assign rfl ?_
   refine RL.nil ?_
   refine X.seq ?_
   refine X.seq ?_
   refine X.region rfl ?_
   refine RL.move rfl ?_
   refine RL.cmp_f rfl rfl rfl rfl (by show ¬ ((_ : Int) ≠ _); exact fun h => h rfl) ?_
   refine RL.nil ?_
   refine X.cond_f rfl ?_
   refine X.skip ?_
   refine X.seq ?_
   refine X.region rfl ?_
   refine RL.move rfl ?_
   refine RL.fn (Lp := []) (Lr := Lr2 ++ [(b1, cel 24 [.slice A m.length n])]) rfl rfl rfl en18 (List.Perm.refl _) (fun w1 hw1 => f_decode (encP m) A2 cp2 w1 (row_rd hr2 hw1 (fun p hp => by simp [hp])) hcp2 (by omega) hbyt) rfl ?_
   rintro _ Lz (⟨m9, Am, cm, Lm, hd, rfl, hmo, hsub⟩ | ⟨hd, rfl⟩)
   rotate_left
   · rw [hback] at hd; cases hd
   obtain rfl : m = m9 := by rw [hback] at hd; exact Option.some.inj hd
   refine RL.drop (L' := Lm ++ (Lr2 ++ [(b1, cel 24 [.slice A m.length n])])) rfl (List.Sublist.append hsub (List.Sublist.refl _)) ?_
   refine RL.move rfl ?_
   refine RL.extract rfl rfl rfl ?_
   refine RL.extract rfl rfl rfl ?_
   refine RL.alloc rfl rfl zt24 ?_
   intro b9 hb9
   dsimp only at hb9
   refine RL.stA rfl rfl ag24.size rfl rfl rfl rfl (by simp [Value.oneCell']) ?_
   refine RL.assign rfl ?_
   refine RL.nil ?_
   refine X.seq ?_
   refine X.seq ?_
   refine X.region rfl ?_
   refine RL.move rfl ?_
   refine RL.cmp_f rfl rfl rfl rfl (by show ¬ ((_ : Int) ≠ _); exact fun h => h rfl) ?_
   refine RL.move rfl ?_
   refine RL.loadOA rfl ag24 rfl (show List.take 1 (List.drop 0 [.slice Am m.length cm]) = [.slice Am m.length cm] from rfl) rfl ?_
   refine RL.loadOA rfl ag24 rfl (show List.take 1 (List.drop 0 [.slice A m.length n]) = [.slice A m.length n] from rfl) rfl ?_
   refine RL.fnQ (v := .bool true) rfl rfl en20 (fun w1 hw1 => f_same m hsz hlen Am A cm n w1 (hmo.reads hw1 (fun p hp => by simp [hp])) (hm1.st0 hw1)) rfl ?_
   refine RL.not rfl rfl ?_
   refine RL.pick_f rfl rfl ?_
   refine RL.nil ?_
   refine X.cond_f rfl ?_
   refine X.skip ?_
   refine X.seq ?_
   refine X.region rfl ?_
   refine RL.move rfl ?_
   refine RL.move rfl ?_
   refine RL.move rfl ?_
   refine RL.len rfl sl40 rfl ?_
   obtain ⟨q, hq1, hq2⟩ := pick_some (x := cut) (n := (encP m).length) hpos
   refine RL.fnQ (v := .int .i64 (q : Int)) rfl rfl en22 (fun w1 hw1 => (f_pick10 cut (encP m).length w1 (by omega) (by omega)).mono (fun v L h => by rw [h, hq1])) rfl ?_
   refine RL.sliceHi (j := q) rfl sl40 rfl rfl rfl (by omega) ?_
   rw [hi_same]
   have hql : ((encP m).take q).length = q := by rw [List.length_take]; omega
   refine RL.fn (Lp := []) (Lr := (b9, cel 24 [.slice Am m.length cm]) :: (Lm ++ (Lr2 ++ [(b1, cel 24 [.slice A m.length n])]))) rfl rfl rfl en18 (List.Perm.refl _) (fun w1 hw1 => by
     have := f_decode ((encP m).take q) A2 cp2 w1 ((row_rd hr2 hw1 (fun p hp => by simp [hp])).firstn (by omega)) (by omega) (by omega) (hbyt.take q)
     rw [hql] at this
     exact this) rfl ?_
   rintro _ Lz (⟨m3, Am3, cm3, Lm3, hd, rfl, hmo3, hsub3⟩ | ⟨hd3, rfl⟩)
   · rw [dec_cut hidm hv hq2] at hd; cases hd
   refine RL.drop (L' := Lr2 ++ []) rfl ((List.Sublist.trans (by simp) (List.sublist_append_right Lm (Lr2 ++ [(b1, cel 24 [.slice A m.length n])]))).trans ((List.sublist_cons_self _ _).trans (List.sublist_append_right Lz _))) ?_
   refine RL.move rfl ?_
   refine RL.extract rfl rfl rfl ?_
   refine RL.extract rfl rfl rfl ?_
   refine RL.alloc rfl rfl zt24 ?_
   intro b11 hb11
   dsimp only at hb11
   refine RL.stA rfl rfl ag24.size rfl rfl rfl rfl (by simp [Value.oneCell']) ?_
   refine RL.assign rfl ?_
   refine RL.nil ?_
   refine X.seq ?_
   refine X.region rfl ?_
   refine RL.move rfl ?_
   refine RL.fn (Lp := []) (Lr := (b11, cel 24 [.slice none 0 0]) :: (Lr2 ++ [])) rfl rfl rfl en23 (List.Perm.refl _) (fun w1 hw1 => f_copy (encP m) (by omega) A2 cp2 w1 (row_rd hr2 hw1 (fun p hp => by simp [hp]))) rfl ?_
   rintro _ Lz ⟨A5, cp5, Lr5, rfl, hr5, hs5⟩
   refine RL.drop (L' := Lr5 ++ []) rfl (List.Sublist.append hs5 (List.nil_sublist _)) ?_
   refine RL.move rfl ?_
   refine RL.bs1U rfl rfl sl40 zt5 rfl ?_
   intro bb6 hbb6
   refine RL.appB (Lr := Lr5) (Lz := (bb6, cel 5 (gcells ([more]))) :: []) (xs := gcells (encP m)) (ys := gcells ([more])) (N := (encP m).length + 1) rfl rfl sl40 el_u8 (by decide) (by decide) Try.underlying40 rfl hr5 rfl List.perm_middle.symm List.mem_cons_self rfl (gcells_one _) (by omega) rfl ?_
   intro A6 cp6 Lr6 hr6
   rw [← gcells_app] at hr6
   refine RL.drop (L' := Lr6 ++ []) rfl (List.Sublist.append (List.Sublist.refl _) (List.sublist_cons_self _ _)) ?_
   have hml : (encP m ++ [more]).length = (encP m).length + 1 := by simp
   have hc6 := (row_len hr6).2
   refine RL.fn (Lp := []) (Lr := Lr6 ++ []) rfl rfl rfl en18 (List.Perm.refl _) (fun w1 hw1 => by
     have := f_decode (encP m ++ [more]) A6 cp6 w1 (row_rd hr6 hw1 (fun p hp => by simp [hp])) (by omega) (by omega) (byt_app hbyt (fun z hz => by rw [List.mem_singleton] at hz; subst hz; exact hmore))
     rw [hml] at this
     exact this) rfl ?_
   rintro _ Lz (⟨m3, Am3, cm3, Lm3, hd, rfl, hmo3, hsub3⟩ | ⟨hd3, rfl⟩)
   · rw [dec_more hidm hv more] at hd; cases hd
   refine RL.move rfl ?_
   refine RL.extract rfl rfl rfl ?_
   refine RL.extract rfl rfl rfl ?_
   refine RL.alloc rfl rfl zt24 ?_
   intro b13 hb13
   dsimp only at hb13
   refine RL.stA rfl rfl ag24.size rfl rfl rfl rfl (by simp [Value.oneCell']) ?_
   refine RL.assign rfl ?_
   refine RL.nil ?_
   refine X.seq ?_
   refine X.region rfl ?_
   refine RL.move rfl ?_
   refine RL.cmp_t rfl rfl rfl rfl (by show ((_ : Int) = _); rfl) ?_
   refine RL.move rfl ?_
   refine RL.move rfl ?_
   refine RL.cmp_t rfl rfl rfl rfl (by show ((_ : Int) = _); rfl) ?_
   refine RL.pick_t rfl rfl ?_
   refine RL.move rfl ?_
   refine RL.fn0 rfl rfl rfl en9 (fun w hw => (f_awake w)) rfl ?_
   rintro _ _ rfl
   refine RL.pick_t rfl rfl ?_
   refine RL.assign rfl ?_
   refine RL.nil ?_
   refine X.ret ?_
   exact ret1 rfl rfl
end Go.Proofs.Ytdnnnbjmjjdcfaa

/- The law: all classes are told. -/
import Derived.Test.YtnebpklmbefmfaaS1
import Derived.Test.YtnebpklmbefmfaaE1
import Derived.Test.YtnebpklmbefmfaaTells
import Derived.Test.YtnebpklmbefmfaaActs
set_option linter.unusedVariables false
set_option linter.unusedSimpArgs false
namespace Go.Proofs.Ytnebpklmbefmfaa
open Go.RowKit
attribute [local irreducible] X RL W Ctr
set_option maxHeartbeats 1000000 in
set_option maxRecDepth 10000 in
theorem w_tells (ms : List (List Cl)) (A0 : Option Addr) (c0 : Nat) (stop : Int) (w : World) (hms : ModsR w ms A0) (hB : MsB ms) :
    Ctr Try.prog 7 [.slice A0 ms.length c0, .int .i64 stop] w [] fun v _ => v = .bool true := by
 refine Ctr.intro0 (n := 151) Try.func7 rfl Try.ntmps7 (Nat.le_of_ble_eq_true rfl) ?_
 refine X.seq ?_
 refine X.region rfl ?_
 refine RL.assign rfl ?_
 refine RL.nil ?_
 refine X.seq ?_
 refine X.seq ?_
 refine X.region rfl ?_
 refine RL.move rfl ?_
 refine RL.fn (Lp := []) (Lr := []) rfl rfl rfl en25 (List.Perm.refl _) (fun w1 hw1 => f_great ms A0 c0 w1 (hms.st0 hw1)) rfl ?_
 rintro _ Lz ⟨q, rfl, hq⟩
 refine RL.drop (L' := []) rfl (List.nil_sublist _) ?_
 cases q
 rotate_left
 ·refine RL.nil ?_
  refine X.cond_t rfl ?_
  refine X.seq ?_
  refine X.region rfl ?_
  refine RL.fn0 rfl rfl rfl en16 (fun w hw => (f_awake w)) rfl ?_
  rintro _ _ rfl
  refine RL.drop rfl (List.sublist_append_right _ _) ?_
  refine RL.assign rfl ?_
  refine RL.nil ?_
  refine X.ret ?_
  exact ret1 rfl rfl
 obtain ⟨hl6, hsz⟩ := hq rfl
 obtain ⟨vs, hrd, hsta⟩ := hms
 have hms : ModsR w ms A0 := ⟨vs, hrd, hsta⟩
 obtain ⟨bb, oo, hA0, hvs⟩ := hrd
 have hvl := hsta.len
 refine RL.nil ?_
 refine X.cond_f rfl ?_
 refine X.skip ?_
 refine X.seq ?_
 refine X.region rfl ?_
 refine RL.move rfl ?_
 refine RL.fn (Lp := []) (Lr := []) rfl rfl rfl en10 (List.Perm.refl _) (fun w1 hw1 => f_new ms hsz A0 c0 0 (by omega) w1 (hms.st0 hw1) hB) rfl ?_
 rintro _ Lz (⟨hne, rfl⟩ | ⟨hN, rb, A, cp, Lr, xs, Lst, rfl, hrow, hst, hsub⟩)
 ·refine RL.drop (L' := []) rfl (List.nil_sublist _) ?_
  refine RL.move rfl ?_
  refine RL.extract rfl rfl rfl ?_
  refine RL.extract rfl rfl rfl ?_
  refine RL.assign rfl ?_
  refine RL.assign rfl ?_
  refine RL.nil ?_
  refine X.seq ?_
  refine X.seq ?_
  refine X.region rfl ?_
  refine RL.move rfl ?_
  refine RL.cmp_t rfl rfl rfl rfl (by show ((_ : Int) ≠ _); exact hne) ?_
  refine RL.nil ?_
  refine X.cond_t rfl ?_
  refine X.seq ?_
  refine X.region rfl ?_
  refine RL.fn0 rfl rfl rfl en16 (fun w hw => (f_awake w)) rfl ?_
  rintro _ _ rfl
  refine RL.drop rfl (List.sublist_append_right _ _) ?_
  refine RL.assign rfl ?_
  refine RL.nil ?_
  refine X.ret ?_
  exact ret1 rfl rfl
 obtain ⟨hl4, hok⟩ := newP_all hN
 have hl1 : 1 ≤ ms.length := by
   apply Nat.le_of_not_lt
   intro h
   rw [newP_l (by decide) (.inl h)] at hN
   cases hN
 have hxl : xs.length = ms.length := hst.len
 have hrl : (List.replicate ms.length mv0).length = xs.length := by rw [List.length_replicate]; exact hxl.symm
 have hv8 : ∀ m ∈ ms, 1 ≤ m.length ∧ m.length ≤ 8 := fun m hm => (mcheck_v (hok m hm)).1
 have hal := allC_len (fun m hm => (hv8 m hm).2)
 have hm8 : ∀ m ∈ ms, m.length ≤ 1000 := fun m hm => by have := hv8 m hm; omega
 refine RL.drop (L' := (RegG rb A cp Lr 0 xs (List.replicate ms.length mv0) ++ Lst)) rfl (hsub.trans (List.sublist_append_left _ _)) ?_
 refine RL.move rfl ?_
 refine RL.extract rfl rfl rfl ?_
 refine RL.extract rfl rfl rfl ?_
 refine RL.assign rfl ?_
 refine RL.assign rfl ?_
 refine RL.nil ?_
 refine X.seq ?_
 refine X.seq ?_
 refine X.region rfl ?_
 refine RL.move rfl ?_
 refine RL.cmp_f rfl rfl rfl rfl (by show ¬ ((_ : Int) ≠ _); exact fun h => h rfl) ?_
 refine RL.nil ?_
 refine X.cond_f rfl ?_
 refine X.skip ?_
 refine X.seq ?_
 refine X.region rfl ?_
 refine RL.assign rfl ?_
 refine RL.nil ?_
 refine X.seq ?_
 refine X.seq ?_
 refine X.region rfl ?_
 refine RL.assign rfl ?_
 refine RL.nil ?_
 refine X.block ?_
 refine X.loop (γ := Nat) (fun g ρ L => (g ≤ ms.length) ∧ Has ρ [(0, .slice A0 ms.length c0), (1, .int .i64 stop), (5, .pointer (some ⟨rb, 0, none⟩)), (7, .int .i64 (((allC (ms.take g)).length : Nat) : Int)), (8, .int .i64 g)] ∧ L = (RegG rb A cp Lr 0 xs (List.replicate ms.length mv0) ++ Lst)) (fun g => ms.length - g) (0) ⟨_, (by repeat (first | exact sb0 _ | exact sb1 _ | (rw [List.append_nil]; exact sb0 _) | exact sb2 _ _ | exact sb3 _ _ _ | apply sb4 | apply sb5 | apply sb6)), Nat.zero_le _, ⟨rfl, rfl, rfl, rfl, rfl, trivial⟩, rfl⟩ ?_
 rintro g _ _ ⟨q1, hρ, rfl⟩
 obtain ⟨base, rfl⟩ := hρ.base
 clear hρ
 refine X.seq ?_
 refine X.seq ?_
 refine X.region rfl ?_
 refine RL.move rfl ?_
 refine RL.move rfl ?_
 refine RL.len rfl sl32 rfl ?_
 refine RL.cmp_s rfl rfl rfl rfl (fun hg => ?_) (fun hg => ?_)
 ·replace hg : (_ : Int) < _ := hg
  obtain ⟨m, hm⟩ : ∃ m, ms[g]? = some m := ⟨_, List.getElem?_eq_getElem (by omega)⟩
  obtain ⟨Am, cm, hv0, hmr⟩ := hsta.get g m hm
  have hm18 := hv8 m (List.mem_of_getElem? hm)
  obtain ⟨rest, hpre⟩ := allC_pre ms (g := g) (by omega)
  have hpl : (allC (ms.take g)).length ≤ (allC ms).length := by rw [hpre, List.length_append]; omega
  refine RL.nil ?_
  refine X.cond_t rfl ?_
  refine X.skip ?_
  refine X.seq ?_
  refine X.block ?_
  refine X.region rfl ?_
  refine RL.move rfl ?_
  refine RL.move rfl ?_
  refine RL.move rfl ?_
  refine RL.indexAddr rfl sl32 rfl rfl (hA0 (by omega)) rfl (by omega) ?_
  refine RL.fieldAddr rfl fd30_0 rfl ?_
  refine RL.loadI rfl sc28 rfl (cells_one hvs hv0 0 _ rfl) (by simp) ?_
  refine RL.len rfl sl28 rfl ?_
  refine RL.add rfl rfl rfl (by omega) ?_
  refine RL.assign rfl ?_
  refine RL.nil ?_
  refine X.blk ?_
  refine X.region rfl ?_
  refine RL.move rfl ?_
  refine RL.add rfl rfl rfl (by omega) ?_
  refine RL.assign rfl ?_
  refine RL.nil ?_
  refine X.hyp ⟨rfl, g + 1, by omega, _, (by repeat (first | exact sb0 _ | exact sb1 _ | (rw [List.append_nil]; exact sb0 _) | exact sb2 _ _ | exact sb3 _ _ _ | apply sb4 | apply sb5 | apply sb6)), by omega, ⟨rfl, rfl, rfl, congrArg (Value.int .i64) (by rw [allC_succ hm, List.length_append, List.length_map]; push_cast; rfl), rfl, trivial⟩, rfl⟩
 replace hg : ¬ ((_ : Int) < _) := hg
 obtain rfl : g = ms.length := by omega
 rw [allC_all]
 refine RL.nil ?_
 refine X.cond_f rfl ?_
 refine X.exit rfl ?_
 refine X.seq ?_
 refine X.region rfl ?_
 refine RL.move rfl ?_
 refine RL.fn (Lp := []) (Lr := (RegG rb A cp Lr 0 xs (List.replicate ms.length mv0) ++ Lst)) rfl rfl rfl en29 (List.Perm.refl _) (fun w1 hw1 => by
   have hw2 : St w [] w1 ((RegG rb A cp Lr 0 xs (List.replicate ms.length mv0) ++ Lst)) := hw1
   exact f_classes ms hB hok (by omega) hm8 rb cp A Lr Lst 0 xs (List.replicate ms.length mv0) hrow hst hrl 99 (by omega) w1 (fun p hp => hw2.own p (hp)) (hw2.nodup.sublist (List.Sublist.refl _))) rfl ?_
 rintro _ Lz ⟨Ai, ci, Li, Ax, cx, css, Lrr, Lss, rfl, hri, hrx, hcs, hsb⟩
 
 rw [List.take_of_length_le (by omega)] at hri hrx hcs ⊢
 have hpos : 0 < (allC ms).length := by
   obtain ⟨m, hm⟩ : ∃ m, ms[0]? = some m := ⟨_, List.getElem?_eq_getElem (by omega)⟩
   have h1 := (hv8 m (List.mem_of_getElem? hm)).1
   obtain ⟨c, hc⟩ : ∃ c, m[0]? = some c := ⟨_, List.getElem?_eq_getElem (by omega)⟩
   exact Nat.lt_of_le_of_lt (Nat.zero_le _) (List.getElem?_eq_some_iff.1 (allC_get hm hc)).1
 obtain ⟨ab, junk, rfl, rfl⟩ := hri.open hpos
 obtain ⟨xb, junk2, rfl, rfl⟩ := hrx.open hpos
 obtain ⟨Ps, hPl, rfl, hPs⟩ := hcs.parts
 refine RL.drop (L' := ((ab, cel 3 (ints ((allC ms).map fun p => ((p.1 : Nat) : Int)) ++ junk)) :: ((xb, cel 69 (css.flatten ++ junk2)) :: Ps.flatten)) ++ (RegG rb A cp Lr 0 xs (List.replicate ms.length mv0) ++ Lst)) rfl ((by simpa using hsb : ((ab, cel 3 (ints ((allC ms).map fun p => ((p.1 : Nat) : Int)) ++ junk)) :: ((xb, cel 69 (css.flatten ++ junk2)) :: Ps.flatten)).Sublist Lz).append (List.Sublist.refl _)) ?_
 refine RL.perm (L' := (RegG rb A cp Lr 0 xs (List.replicate ms.length mv0) ++ Lst) ++ ((ab, cel 3 (ints ((allC ms).map fun p => ((p.1 : Nat) : Int)) ++ junk)) :: ((xb, cel 69 (css.flatten ++ junk2)) :: Ps.flatten))) rfl List.perm_append_comm ?_
 refine RL.move rfl ?_
 refine RL.extract rfl rfl rfl ?_
 refine RL.extract rfl rfl rfl ?_
 refine RL.assign rfl ?_
 refine RL.assign rfl ?_
 refine RL.nil ?_
 refine X.seq ?_
 refine X.region rfl ?_
 refine RL.move rfl ?_
 refine RL.move rfl ?_
 refine RL.add rfl rfl rfl (by omega) ?_
 obtain ⟨k, ek, hk⟩ := pick_nat stop (n := (allC ms).length + 1) (by omega)
 refine RL.fn0 rfl rfl rfl en9 (fun w hw => ((f_pick stop (((allC ms).length : Nat) + 1 : Int) w (by omega) (by omega)).mono fun v L h => (by rw [h]; exact congrArg (Value.int .i64) (by exact_mod_cast ek) : v = .int .i64 ((k : Nat) : Int)))) rfl ?_
 rintro _ _ rfl
 refine RL.drop rfl (List.sublist_append_right _ _) ?_
 refine RL.assign rfl ?_
 refine RL.nil ?_
 refine X.seq ?_
 refine X.region rfl ?_
 refine RL.move rfl ?_
 refine RL.move rfl ?_
 refine RL.fn (Lp := []) (Lr := (RegG rb A cp Lr 0 xs (List.replicate ms.length mv0) ++ Lst) ++ ((ab, cel 3 (ints ((allC ms).map fun p => ((p.1 : Nat) : Int)) ++ junk)) :: ((xb, cel 69 (css.flatten ++ junk2)) :: Ps.flatten))) rfl rfl rfl en29 (List.Perm.refl _) (fun w1 hw1 => by
   have hw2 : St w [] w1 ((RegG rb A cp Lr 0 xs (List.replicate ms.length mv0) ++ Lst) ++ ((ab, cel 3 (ints ((allC ms).map fun p => ((p.1 : Nat) : Int)) ++ junk)) :: ((xb, cel 69 (css.flatten ++ junk2)) :: Ps.flatten))) := hw1
   exact f_classes ms hB hok (by omega) hm8 rb cp A Lr Lst 0 xs (List.replicate ms.length mv0) hrow hst hrl k (by omega) w1 (fun p hp => hw2.own p (List.mem_append_left _ hp)) (hw2.nodup.sublist ((sb2 _ _).map _))) rfl ?_
 rintro _ Lz2 ⟨Ai2, ci2, Li2, Ax2, cx2, css2, Lrr2, Lss2, rfl, hri2, hrx2, hcs2, hsb2⟩
 refine RL.drop (L' := (RegG rb A cp Lr 0 xs (List.replicate ms.length mv0) ++ Lst) ++ ((ab, cel 3 (ints ((allC ms).map fun p => ((p.1 : Nat) : Int)) ++ junk)) :: ((xb, cel 69 (css.flatten ++ junk2)) :: Ps.flatten))) rfl (List.sublist_append_right _ _) ?_
 rw [show ((allC ms).take k).length = k from by rw [List.length_take]; omega]
 refine RL.move rfl ?_
 refine RL.extract rfl rfl rfl ?_
 refine RL.extract rfl rfl rfl ?_
 refine RL.assign rfl ?_
 refine RL.assign rfl ?_
 refine RL.nil ?_
 refine X.seq ?_
 refine X.seq ?_
 refine X.region rfl ?_
 refine RL.move rfl ?_
 refine RL.len rfl sl38 rfl ?_
 refine RL.move rfl ?_
 refine RL.cmp_f rfl rfl rfl rfl (by show ¬ ((_ : Int) ≠ _); exact fun h => h rfl) ?_
 refine RL.move rfl ?_
 refine RL.move rfl ?_
 refine RL.len rfl sl38 rfl ?_
 refine RL.move rfl ?_
 refine RL.cmp_f rfl rfl rfl rfl (by show ¬ ((_ : Int) ≠ _); exact fun h => h rfl) ?_
 refine RL.pick_f rfl rfl ?_
 refine RL.nil ?_
 refine X.cond_f rfl ?_
 refine X.skip ?_
 refine X.seq ?_
 refine X.region rfl ?_
 refine RL.assign rfl ?_
 refine RL.nil ?_
 refine X.seq ?_
 refine X.seq ?_
 refine X.region rfl ?_
 refine RL.assign rfl ?_
 refine RL.nil ?_
 refine X.block ?_
 refine X.loop (γ := Nat) (fun g ρ L => (g ≤ ms.length) ∧ Has ρ [(0, .slice A0 ms.length c0), (5, .pointer (some ⟨rb, 0, none⟩)), (7, .int .i64 (((allC (ms.take g)).length : Nat) : Int)), (9, .slice (some ⟨ab, 0, none⟩) (allC ms).length ci), (10, .slice (some ⟨xb, 0, none⟩) (allC ms).length cx), (14, .int .i64 g)] ∧ L = (RegG rb A cp Lr 0 xs (List.replicate ms.length mv0) ++ Lst) ++ ((ab, cel 3 (ints ((allC ms).map fun p => ((p.1 : Nat) : Int)) ++ junk)) :: ((xb, cel 69 (css.flatten ++ junk2)) :: (Ps.drop ((allC (ms.take g)).length)).flatten))) (fun g => ms.length - g) (0) ⟨_, (by repeat (first | exact sb0 _ | exact sb1 _ | (rw [List.append_nil]; exact sb0 _) | exact sb2 _ _ | exact sb3 _ _ _ | apply sb4 | apply sb5 | apply sb6)), Nat.zero_le _, ⟨rfl, rfl, rfl, rfl, rfl, rfl, trivial⟩, rfl⟩ ?_
 rintro g _ _ ⟨q1, hρ, rfl⟩
 obtain ⟨base, rfl⟩ := hρ.base
 clear hρ
 refine X.seq ?_
 refine X.seq ?_
 refine X.region rfl ?_
 refine RL.move rfl ?_
 refine RL.move rfl ?_
 refine RL.len rfl sl32 rfl ?_
 refine RL.cmp_s rfl rfl rfl rfl (fun hg => ?_) (fun hg => ?_)
 ·replace hg : (_ : Int) < _ := hg
  obtain ⟨m, hm⟩ : ∃ m, ms[g]? = some m := ⟨_, List.getElem?_eq_getElem (by omega)⟩
  obtain ⟨Am, cm, hv0, hmr⟩ := hsta.get g m hm
  have hm18 := hv8 m (List.mem_of_getElem? hm)
  obtain ⟨bb2, oo2, hAm, hcc⟩ := hmr.open
  refine RL.nil ?_
  refine X.cond_t rfl ?_
  refine X.skip ?_
  refine X.seq ?_
  refine X.block ?_
  refine X.seq ?_
  refine X.region rfl ?_
  refine RL.assign rfl ?_
  refine RL.nil ?_
  refine X.block ?_
  refine X.loop (γ := Nat) (fun k ρ L => (k ≤ m.length) ∧ Has ρ [(0, .slice A0 ms.length c0), (5, .pointer (some ⟨rb, 0, none⟩)), (7, .int .i64 ((((allC (ms.take g)).length + k : Nat)) : Int)), (9, .slice (some ⟨ab, 0, none⟩) (allC ms).length ci), (10, .slice (some ⟨xb, 0, none⟩) (allC ms).length cx), (14, .int .i64 g), (15, .int .i64 k)] ∧ L = (RegG rb A cp Lr 0 xs (List.replicate ms.length mv0) ++ Lst) ++ ((ab, cel 3 (ints ((allC ms).map fun p => ((p.1 : Nat) : Int)) ++ junk)) :: ((xb, cel 69 (css.flatten ++ junk2)) :: (Ps.drop ((allC (ms.take g)).length + k)).flatten))) (fun k => m.length - k) (0) ⟨_, (by repeat (first | exact sb0 _ | exact sb1 _ | (rw [List.append_nil]; exact sb0 _) | exact sb2 _ _ | exact sb3 _ _ _ | apply sb4 | apply sb5 | apply sb6)), Nat.zero_le _, ⟨rfl, rfl, rfl, rfl, rfl, rfl, rfl, trivial⟩, rfl⟩ ?_
  rintro k _ _ ⟨q1, hρ, rfl⟩
  obtain ⟨base, rfl⟩ := hρ.base
  clear hρ
  refine X.seq ?_
  refine X.seq ?_
  refine X.region rfl ?_
  refine RL.move rfl ?_
  refine RL.move rfl ?_
  refine RL.move rfl ?_
  refine RL.indexAddr rfl sl32 rfl rfl (hA0 (by omega)) rfl (by omega) ?_
  refine RL.fieldAddr rfl fd30_0 rfl ?_
  refine RL.loadI rfl sc28 rfl (cells_one hvs hv0 0 _ rfl) (by simp) ?_
  refine RL.len rfl sl28 rfl ?_
  refine RL.cmp_s rfl rfl rfl rfl (fun hk => ?_) (fun hk => ?_)
  ·replace hk : (_ : Int) < _ := hk
   obtain ⟨cl, hcl⟩ : ∃ cl, m[k]? = some cl := ⟨_, List.getElem?_eq_getElem (by omega)⟩
   obtain ⟨cs2, hcs2, hcr2⟩ := hcc k cl hcl
   have hcz := (hsz.get hm).2 cl (List.mem_of_getElem? hcl)
   have hgt := allC_get hm hcl
   have hnl := (List.getElem?_eq_some_iff.1 hgt).1
   have hni : (ints ((allC ms).map fun p => ((p.1 : Nat) : Int)) ++ junk)[0 + ((allC (ms.take g)).length + k) * 1]? = some (.int .i64 ((g : Nat) : Int)) := by
     rw [Nat.zero_add, Nat.mul_one, List.getElem?_append_left (by rw [ints_length, List.length_map]; exact hnl)]
     exact ints_get (by rw [List.getElem?_map, hgt]; rfl)
   obtain ⟨cs, P, hcs1, hP, hco⟩ := hPs ((allC (ms.take g)).length + k) cl (by rw [List.getElem?_map, hgt]; rfl)
   have h19 := hcs.all
   have hcs0 := flat_at19 (junk := junk2) h19 hcs1
   obtain ⟨l, x0, hl0, hx0⟩ := first_op (hok m (List.mem_of_getElem? hm)) hcl
   obtain ⟨mb, cm1, ml, ib, ci1, junk3, Lf, Lq, h18, hml0, hPe⟩ := hco.first hl0 (List.getElem?_eq_some_iff.1 hx0).1
   have hll := (List.getElem?_eq_some_iff.1 hx0).1
   have hmm := (List.getElem?_eq_some_iff.1 hl0).1
   have h18f := flat_get19 (junk := junk2) h19 hcs1 (by decide) h18
   have hid19 := hco.len
   rw [flat_drop hP]
   refine RL.nil ?_
   refine X.cond_t rfl ?_
   refine X.skip ?_
   refine X.seq ?_
   refine X.block ?_
   refine X.seq ?_
   refine X.seq ?_
   refine X.anyQ [.val (.slice (some ⟨ab, 0, none⟩) (allC ms).length ci), .val (.int .i64 ((((allC (ms.take g)).length + k : Nat)) : Int)), .val (.pointer (some ⟨ab, 0 + ((allC (ms.take g)).length + k) * 1, none⟩)), .val (.int .i64 ((g : Nat) : Int)), .val (.int .i64 g), .val (.bool false), .val (.bool false), .val (.slice (some ⟨xb, 0, none⟩) (allC ms).length cx), .val (.int .i64 ((((allC (ms.take g)).length + k : Nat)) : Int)), .val (.pointer (some ⟨xb, 0 + ((allC (ms.take g)).length + k) * 19, none⟩)), .val (.agg cs.toArray), slF cs, mdF cs, .val (.slice A0 ms.length c0), .val (.int .i64 g), .val (.pointer (some ⟨bb, oo + g * 1, none⟩)), .val (.pointer (some ⟨bb, oo + g * 1 + 0, none⟩)), .val (.slice Am m.length cm), .val (.int .i64 k), .val (.pointer (some ⟨bb2, oo2 + k * 19, none⟩)), .val (.agg cs2.toArray), slF cs2, mdF cs2, .val (.bool true), .val (.bool false), .val (.bool false)] rfl (by kernel_rfl) (by kernel_rfl) (by kernel_rfl) ⟨?_, ?_, ?_, ?_, ?_, ?_, ?_, ?_, ?_, ?_, ?_, ?_, ?_, ?_, ?_, ?_, ?_, ?_, ?_, ?_, ?_, ?_, ?_, ?_, ?_, ?_, trivial⟩ ?_
   ·intro ρ L hF hfix hold hL
    have u9 : ρ 9 = .slice (some ⟨ab, 0, none⟩) (allC ms).length ci := hfix 9 (by decide)
    obtain ⟨base, rfl⟩ := Has.base (ρ := ρ) (l := [(9, .slice (some ⟨ab, 0, none⟩) (allC ms).length ci)]) ⟨u9, trivial⟩
    refine RL.move rfl ?_
    refine RL.nil ?_
    exact ⟨rfl, ⟨_, rfl, rfl⟩, fun p hp => hp⟩
   ·intro ρ L hF hfix hold hL
    have u7 : ρ 7 = .int .i64 ((((allC (ms.take g)).length + k : Nat)) : Int) := hfix 7 (by decide)
    obtain ⟨base, rfl⟩ := Has.base (ρ := ρ) (l := [(7, .int .i64 ((((allC (ms.take g)).length + k : Nat)) : Int))]) ⟨u7, trivial⟩
    refine RL.move rfl ?_
    refine RL.nil ?_
    exact ⟨rfl, ⟨_, rfl, rfl⟩, fun p hp => hp⟩
   ·intro ρ L hF hfix hold hL
    have u84 : ρ 84 = .slice (some ⟨ab, 0, none⟩) (allC ms).length ci := hF ⟨0, Ground.data⟩ (by simp) rfl _ _ rfl rfl
    have u85 : ρ 85 = .int .i64 ((((allC (ms.take g)).length + k : Nat)) : Int) := hF ⟨1, Ground.data⟩ (by simp) rfl _ _ rfl rfl
    obtain ⟨base, rfl⟩ := Has.base (ρ := ρ) (l := [(84, .slice (some ⟨ab, 0, none⟩) (allC ms).length ci), (85, .int .i64 ((((allC (ms.take g)).length + k : Nat)) : Int))]) ⟨u84, u85, trivial⟩
    refine RL.indexAddr rfl sl38 rfl rfl rfl rfl hnl ?_
    refine RL.nil ?_
    exact ⟨rfl, ⟨_, rfl, rfl⟩, fun p hp => hp⟩
   ·intro ρ L hF hfix hold hL
    have u86 : ρ 86 = .pointer (some ⟨ab, 0 + ((allC (ms.take g)).length + k) * 1, none⟩) := hF ⟨2, Ground.data⟩ (by simp) rfl _ _ rfl rfl
    obtain ⟨base, rfl⟩ := Has.base (ρ := ρ) (l := [(86, .pointer (some ⟨ab, 0 + ((allC (ms.take g)).length + k) * 1, none⟩))]) ⟨u86, trivial⟩
    have hb : HasE ab (cel 3 (ints ((allC ms).map fun p => ((p.1 : Nat) : Int)) ++ junk)) L := ⟨hL _ (by simp)⟩
    refine RL.loadO rfl sc3 rfl hni ?_
    refine RL.nil ?_
    exact ⟨rfl, ⟨_, rfl, rfl⟩, fun p hp => hp⟩
   ·intro ρ L hF hfix hold hL
    have u14 : ρ 14 = .int .i64 g := hfix 14 (by decide)
    obtain ⟨base, rfl⟩ := Has.base (ρ := ρ) (l := [(14, .int .i64 g)]) ⟨u14, trivial⟩
    refine RL.move rfl ?_
    refine RL.nil ?_
    exact ⟨rfl, ⟨_, rfl, rfl⟩, fun p hp => hp⟩
   ·intro ρ L hF hfix hold hL
    have u87 : ρ 87 = .int .i64 ((g : Nat) : Int) := hF ⟨3, Ground.data⟩ (by simp) rfl _ _ rfl rfl
    have u88 : ρ 88 = .int .i64 g := hF ⟨4, Ground.data⟩ (by simp) rfl _ _ rfl rfl
    obtain ⟨base, rfl⟩ := Has.base (ρ := ρ) (l := [(87, .int .i64 ((g : Nat) : Int)), (88, .int .i64 g)]) ⟨u87, u88, trivial⟩
    refine RL.cmp_f rfl rfl rfl rfl (by show ¬ ((_ : Int) ≠ _); exact fun h => h rfl) ?_
    refine RL.nil ?_
    exact ⟨rfl, ⟨_, rfl, rfl⟩, fun p hp => hp⟩
   ·intro ρ L hF hfix hold hL
    have u89 : ρ 89 = .bool false := hF ⟨5, Ground.data⟩ (by simp) rfl _ _ rfl rfl
    obtain ⟨base, rfl⟩ := Has.base (ρ := ρ) (l := [(89, .bool false)]) ⟨u89, trivial⟩
    refine RL.move rfl ?_
    refine RL.nil ?_
    exact ⟨rfl, ⟨_, rfl, rfl⟩, fun p hp => hp⟩
   ·intro ρ L hF hfix hold hL
    have u90 : ρ 90 = .bool false := hF ⟨6, Ground.guard⟩ (by simp) rfl _ _ rfl rfl
    have u10 : ρ 10 = .slice (some ⟨xb, 0, none⟩) (allC ms).length cx := hfix 10 (by decide)
    obtain ⟨base, rfl⟩ := Has.base (ρ := ρ) (l := [(90, .bool false), (10, .slice (some ⟨xb, 0, none⟩) (allC ms).length cx)]) ⟨u90, u10, trivial⟩
    refine RL.move rfl ?_
    refine RL.nil ?_
    exact ⟨rfl, ⟨_, rfl, rfl⟩, fun p hp => hp⟩
   ·intro ρ L hF hfix hold hL
    have u90 : ρ 90 = .bool false := hF ⟨6, Ground.guard⟩ (by simp) rfl _ _ rfl rfl
    have u7 : ρ 7 = .int .i64 ((((allC (ms.take g)).length + k : Nat)) : Int) := hfix 7 (by decide)
    obtain ⟨base, rfl⟩ := Has.base (ρ := ρ) (l := [(90, .bool false), (7, .int .i64 ((((allC (ms.take g)).length + k : Nat)) : Int))]) ⟨u90, u7, trivial⟩
    refine RL.move rfl ?_
    refine RL.nil ?_
    exact ⟨rfl, ⟨_, rfl, rfl⟩, fun p hp => hp⟩
   ·intro ρ L hF hfix hold hL
    have u90 : ρ 90 = .bool false := hF ⟨6, Ground.guard⟩ (by simp) rfl _ _ rfl rfl
    have u91 : ρ 91 = .slice (some ⟨xb, 0, none⟩) (allC ms).length cx := hF ⟨7, Ground.data⟩ (by simp) rfl _ _ rfl rfl
    have u92 : ρ 92 = .int .i64 ((((allC (ms.take g)).length + k : Nat)) : Int) := hF ⟨8, Ground.data⟩ (by simp) rfl _ _ rfl rfl
    obtain ⟨base, rfl⟩ := Has.base (ρ := ρ) (l := [(90, .bool false), (91, .slice (some ⟨xb, 0, none⟩) (allC ms).length cx), (92, .int .i64 ((((allC (ms.take g)).length + k : Nat)) : Int))]) ⟨u90, u91, u92, trivial⟩
    refine RL.indexAddr rfl sl28 rfl rfl rfl rfl hnl ?_
    refine RL.nil ?_
    exact ⟨rfl, ⟨_, rfl, rfl⟩, fun p hp => hp⟩
   ·intro ρ L hF hfix hold hL
    have u90 : ρ 90 = .bool false := hF ⟨6, Ground.guard⟩ (by simp) rfl _ _ rfl rfl
    have u93 : ρ 93 = .pointer (some ⟨xb, 0 + ((allC (ms.take g)).length + k) * 19, none⟩) := hF ⟨9, Ground.data⟩ (by simp) rfl _ _ rfl rfl
    obtain ⟨base, rfl⟩ := Has.base (ρ := ρ) (l := [(90, .bool false), (93, .pointer (some ⟨xb, 0 + ((allC (ms.take g)).length + k) * 19, none⟩))]) ⟨u90, u93, trivial⟩
    have hb : HasE xb (cel 69 (css.flatten ++ junk2)) L := ⟨hL _ (by simp)⟩
    refine RL.loadOA rfl ag69 rfl (by rw [Nat.zero_add]; exact hcs0) hid19 ?_
    refine RL.nil ?_
    exact ⟨rfl, ⟨_, rfl, rfl⟩, fun p hp => hp⟩
   ·intro ρ L hF hfix hold hL
    have u90 : ρ 90 = .bool false := hF ⟨6, Ground.guard⟩ (by simp) rfl _ _ rfl rfl
    have u94 : ρ 94 = .agg cs.toArray := hF ⟨10, Ground.data⟩ (by simp) rfl _ _ rfl rfl
    obtain ⟨base, rfl⟩ := Has.base (ρ := ρ) (l := [(90, .bool false), (94, .agg cs.toArray)]) ⟨u90, u94, trivial⟩
    refine RL.bs1A (l := cs) rfl rfl sl28 zt69 rfl hid19 (by decide) ?_
    intro bx hbx
    refine RL.nil ?_
    exact ⟨rfl, ⟨_, rfl, ⟨bx, rfl, List.mem_cons_self⟩⟩, fun p hp => List.mem_cons_of_mem _ hp⟩
   ·intro ρ L hF hfix hold hL
    have u90 : ρ 90 = .bool false := hF ⟨6, Ground.guard⟩ (by simp) rfl _ _ rfl rfl
    obtain ⟨b95, u95, m95⟩ := hF ⟨11, Ground.data⟩ (by simp) rfl _ _ rfl rfl
    obtain ⟨base, rfl⟩ := Has.base (ρ := ρ) (l := [(90, .bool false), (95, .slice (some ⟨b95, 0, none⟩) 1 1)]) ⟨u90, u95, trivial⟩
    refine RL.bldC (vs := [(0, .slice (some ⟨b95, 0, none⟩) 1 1)]) (cells := [.slice (some ⟨b95, 0, none⟩) 1 1]) rfl rfl (fun w => by kernel_rfl) ?_
    refine RL.nil ?_
    exact ⟨rfl, ⟨_, rfl, ⟨b95, rfl, m95⟩⟩, fun p hp => hp⟩
   ·intro ρ L hF hfix hold hL
    have u90 : ρ 90 = .bool false := hF ⟨6, Ground.guard⟩ (by simp) rfl _ _ rfl rfl
    have u0 : ρ 0 = .slice A0 ms.length c0 := hfix 0 (by decide)
    obtain ⟨base, rfl⟩ := Has.base (ρ := ρ) (l := [(90, .bool false), (0, .slice A0 ms.length c0)]) ⟨u90, u0, trivial⟩
    refine RL.move rfl ?_
    refine RL.nil ?_
    exact ⟨rfl, ⟨_, rfl, rfl⟩, fun p hp => hp⟩
   ·intro ρ L hF hfix hold hL
    have u90 : ρ 90 = .bool false := hF ⟨6, Ground.guard⟩ (by simp) rfl _ _ rfl rfl
    have u14 : ρ 14 = .int .i64 g := hfix 14 (by decide)
    obtain ⟨base, rfl⟩ := Has.base (ρ := ρ) (l := [(90, .bool false), (14, .int .i64 g)]) ⟨u90, u14, trivial⟩
    refine RL.move rfl ?_
    refine RL.nil ?_
    exact ⟨rfl, ⟨_, rfl, rfl⟩, fun p hp => hp⟩
   ·intro ρ L hF hfix hold hL
    have u90 : ρ 90 = .bool false := hF ⟨6, Ground.guard⟩ (by simp) rfl _ _ rfl rfl
    have u97 : ρ 97 = .slice A0 ms.length c0 := hF ⟨13, Ground.data⟩ (by simp) rfl _ _ rfl rfl
    have u98 : ρ 98 = .int .i64 g := hF ⟨14, Ground.data⟩ (by simp) rfl _ _ rfl rfl
    obtain ⟨base, rfl⟩ := Has.base (ρ := ρ) (l := [(90, .bool false), (97, .slice A0 ms.length c0), (98, .int .i64 g)]) ⟨u90, u97, u98, trivial⟩
    refine RL.indexAddr rfl sl32 rfl rfl (hA0 (by omega)) rfl (by omega) ?_
    refine RL.nil ?_
    exact ⟨rfl, ⟨_, rfl, rfl⟩, fun p hp => hp⟩
   ·intro ρ L hF hfix hold hL
    have u90 : ρ 90 = .bool false := hF ⟨6, Ground.guard⟩ (by simp) rfl _ _ rfl rfl
    have u99 : ρ 99 = .pointer (some ⟨bb, oo + g * 1, none⟩) := hF ⟨15, Ground.data⟩ (by simp) rfl _ _ rfl rfl
    obtain ⟨base, rfl⟩ := Has.base (ρ := ρ) (l := [(90, .bool false), (99, .pointer (some ⟨bb, oo + g * 1, none⟩))]) ⟨u90, u99, trivial⟩
    refine RL.fieldAddr rfl fd30_0 rfl ?_
    refine RL.nil ?_
    exact ⟨rfl, ⟨_, rfl, rfl⟩, fun p hp => hp⟩
   ·intro ρ L hF hfix hold hL
    have u90 : ρ 90 = .bool false := hF ⟨6, Ground.guard⟩ (by simp) rfl _ _ rfl rfl
    have u100 : ρ 100 = .pointer (some ⟨bb, oo + g * 1 + 0, none⟩) := hF ⟨16, Ground.data⟩ (by simp) rfl _ _ rfl rfl
    obtain ⟨base, rfl⟩ := Has.base (ρ := ρ) (l := [(90, .bool false), (100, .pointer (some ⟨bb, oo + g * 1 + 0, none⟩))]) ⟨u90, u100, trivial⟩
    refine RL.loadI rfl sc28 rfl (cells_one hvs hv0 0 _ rfl) (by simp) ?_
    refine RL.nil ?_
    exact ⟨rfl, ⟨_, rfl, rfl⟩, fun p hp => hp⟩
   ·intro ρ L hF hfix hold hL
    have u90 : ρ 90 = .bool false := hF ⟨6, Ground.guard⟩ (by simp) rfl _ _ rfl rfl
    have u15 : ρ 15 = .int .i64 k := hfix 15 (by decide)
    obtain ⟨base, rfl⟩ := Has.base (ρ := ρ) (l := [(90, .bool false), (15, .int .i64 k)]) ⟨u90, u15, trivial⟩
    refine RL.move rfl ?_
    refine RL.nil ?_
    exact ⟨rfl, ⟨_, rfl, rfl⟩, fun p hp => hp⟩
   ·intro ρ L hF hfix hold hL
    have u90 : ρ 90 = .bool false := hF ⟨6, Ground.guard⟩ (by simp) rfl _ _ rfl rfl
    have u101 : ρ 101 = .slice Am m.length cm := hF ⟨17, Ground.data⟩ (by simp) rfl _ _ rfl rfl
    have u102 : ρ 102 = .int .i64 k := hF ⟨18, Ground.data⟩ (by simp) rfl _ _ rfl rfl
    obtain ⟨base, rfl⟩ := Has.base (ρ := ρ) (l := [(90, .bool false), (101, .slice Am m.length cm), (102, .int .i64 k)]) ⟨u90, u101, u102, trivial⟩
    refine RL.indexAddr rfl sl28 rfl rfl (hAm (by omega)) rfl (by omega) ?_
    refine RL.nil ?_
    exact ⟨rfl, ⟨_, rfl, rfl⟩, fun p hp => hp⟩
   ·intro ρ L hF hfix hold hL
    have u90 : ρ 90 = .bool false := hF ⟨6, Ground.guard⟩ (by simp) rfl _ _ rfl rfl
    have u103 : ρ 103 = .pointer (some ⟨bb2, oo2 + k * 19, none⟩) := hF ⟨19, Ground.data⟩ (by simp) rfl _ _ rfl rfl
    obtain ⟨base, rfl⟩ := Has.base (ρ := ρ) (l := [(90, .bool false), (103, .pointer (some ⟨bb2, oo2 + k * 19, none⟩))]) ⟨u90, u103, trivial⟩
    refine RL.loadIA rfl ag69 rfl hcs2 (by simp) hcr2.len ?_
    refine RL.nil ?_
    exact ⟨rfl, ⟨_, rfl, rfl⟩, fun p hp => hp⟩
   ·intro ρ L hF hfix hold hL
    have u90 : ρ 90 = .bool false := hF ⟨6, Ground.guard⟩ (by simp) rfl _ _ rfl rfl
    have u104 : ρ 104 = .agg cs2.toArray := hF ⟨20, Ground.data⟩ (by simp) rfl _ _ rfl rfl
    obtain ⟨base, rfl⟩ := Has.base (ρ := ρ) (l := [(90, .bool false), (104, .agg cs2.toArray)]) ⟨u90, u104, trivial⟩
    refine RL.bs1A (l := cs2) rfl rfl sl28 zt69 rfl hcr2.len (by decide) ?_
    intro bx hbx
    refine RL.nil ?_
    exact ⟨rfl, ⟨_, rfl, ⟨bx, rfl, List.mem_cons_self⟩⟩, fun p hp => List.mem_cons_of_mem _ hp⟩
   ·intro ρ L hF hfix hold hL
    have u90 : ρ 90 = .bool false := hF ⟨6, Ground.guard⟩ (by simp) rfl _ _ rfl rfl
    obtain ⟨b105, u105, m105⟩ := hF ⟨21, Ground.data⟩ (by simp) rfl _ _ rfl rfl
    obtain ⟨base, rfl⟩ := Has.base (ρ := ρ) (l := [(90, .bool false), (105, .slice (some ⟨b105, 0, none⟩) 1 1)]) ⟨u90, u105, trivial⟩
    refine RL.bldC (vs := [(0, .slice (some ⟨b105, 0, none⟩) 1 1)]) (cells := [.slice (some ⟨b105, 0, none⟩) 1 1]) rfl rfl (fun w => by kernel_rfl) ?_
    refine RL.nil ?_
    exact ⟨rfl, ⟨_, rfl, ⟨b105, rfl, m105⟩⟩, fun p hp => hp⟩
   ·intro ρ L hF hfix hold hL
    have u90 : ρ 90 = .bool false := hF ⟨6, Ground.chain⟩ (by simp) rfl _ _ rfl rfl
    obtain ⟨b96, u96, m96⟩ := hF ⟨12, Ground.data⟩ (by simp) rfl _ _ rfl rfl
    obtain ⟨b106, u106, m106⟩ := hF ⟨22, Ground.data⟩ (by simp) rfl _ _ rfl rfl
    obtain ⟨base, rfl⟩ := Has.base (ρ := ρ) (l := [(90, .bool false), (96, .agg #[.slice (some ⟨b96, 0, none⟩) 1 1]), (106, .agg #[.slice (some ⟨b106, 0, none⟩) 1 1])]) ⟨u90, u96, u106, trivial⟩
    refine RL.fnQ (v := .bool true) rfl rfl en28 (fun w1 hw1 => f_same [cl] (fun c hc => by rw [List.mem_singleton] at hc; subst hc; exact hcz) (by show 1 ≤ 1000; decide) _ _ _ _ w1 (one_rd hw1 m96 (hco.reads hw1 (fun p hp => hL _ (by simp [hp])))) (one_rd hw1 m106 (hcr2.st0 hw1))) rfl ?_
    refine RL.nil ?_
    exact ⟨rfl, ⟨_, rfl, rfl⟩, fun p hp => hp⟩
   ·intro ρ L hF hfix hold hL
    have u90 : ρ 90 = .bool false := hF ⟨6, Ground.guard⟩ (by simp) rfl _ _ rfl rfl
    have u107 : ρ 107 = .bool true := hF ⟨23, Ground.data⟩ (by simp) rfl _ _ rfl rfl
    obtain ⟨base, rfl⟩ := Has.base (ρ := ρ) (l := [(90, .bool false), (107, .bool true)]) ⟨u90, u107, trivial⟩
    refine RL.not rfl rfl ?_
    refine RL.nil ?_
    exact ⟨rfl, ⟨_, rfl, rfl⟩, fun p hp => hp⟩
   ·intro ρ L hF hfix hold hL
    have u90 : ρ 90 = .bool false := hF ⟨6, Ground.data⟩ (by simp) rfl _ _ rfl rfl
    have u108 : ρ 108 = .bool false := hF ⟨24, Ground.data⟩ (by simp) rfl _ _ rfl rfl
    obtain ⟨base, rfl⟩ := Has.base (ρ := ρ) (l := [(90, .bool false), (108, .bool false)]) ⟨u90, u108, trivial⟩
    refine RL.pick_f rfl rfl ?_
    refine RL.nil ?_
    exact ⟨rfl, ⟨_, rfl, rfl⟩, fun p hp => hp⟩
   intro ρ L hT hfix
   have u0 : ρ 0 = .slice A0 ms.length c0 := hfix 0 (by decide)
   have u5 : ρ 5 = .pointer (some ⟨rb, 0, none⟩) := hfix 5 (by decide)
   have u7 : ρ 7 = .int .i64 ((((allC (ms.take g)).length + k : Nat)) : Int) := hfix 7 (by decide)
   have u9 : ρ 9 = .slice (some ⟨ab, 0, none⟩) (allC ms).length ci := hfix 9 (by decide)
   have u10 : ρ 10 = .slice (some ⟨xb, 0, none⟩) (allC ms).length cx := hfix 10 (by decide)
   have u14 : ρ 14 = .int .i64 g := hfix 14 (by decide)
   have u15 : ρ 15 = .int .i64 k := hfix 15 (by decide)
   have u109 : ρ 109 = .bool false := hT 25 _ _ rfl rfl
   obtain ⟨base, rfl⟩ := Has.base (ρ := ρ) (l := [(0, .slice A0 ms.length c0), (5, .pointer (some ⟨rb, 0, none⟩)), (7, .int .i64 ((((allC (ms.take g)).length + k : Nat)) : Int)), (9, .slice (some ⟨ab, 0, none⟩) (allC ms).length ci), (10, .slice (some ⟨xb, 0, none⟩) (allC ms).length cx), (14, .int .i64 g), (15, .int .i64 k), (109, .bool false)]) ⟨u0, u5, u7, u9, u10, u14, u15, u109, trivial⟩
   subst hPe
   refine X.cond_f rfl ?_
   refine X.skip ?_
   refine X.seq ?_
   refine X.region rfl ?_
   refine RL.move rfl ?_
   refine RL.move rfl ?_
   refine RL.indexAddr rfl sl28 rfl rfl rfl rfl hnl ?_
   refine RL.fieldAddr rfl fd69_3 rfl ?_
   refine RL.loadO rfl sc67 rfl h18f ?_
   refine RL.indexAddr rfl sl67 rfl rfl rfl (j := 0) rfl (by omega) ?_
   refine RL.loadO rfl sc78 rfl (show ml[0 + 0 * 1]? = _ from hml0) ?_
   refine RL.indexAddr rfl sl78 rfl rfl rfl (j := 0) rfl (by omega) ?_
   refine RL.fieldAddr rfl fd77_0 rfl ?_
   refine RL.loadO rfl sc3 rfl (ins_first hx0) ?_
   refine RL.addW rfl rfl rfl ?_
   refine RL.indexAddr rfl sl78 rfl rfl rfl (j := 0) rfl (by omega) ?_
   refine RL.fieldAddr rfl fd77_0 rfl ?_
   refine RL.stI rfl rfl sc3.size rfl rfl (by simp [icells, ecells_len Ins.len]; omega) ?_
   refine RL.nil ?_
   refine X.seq ?_
   refine X.region rfl ?_
   refine RL.move rfl ?_
   refine RL.move rfl ?_
   refine RL.move rfl ?_
   refine RL.fn0 rfl rfl rfl en27 (fun w hw => (f_class g k ms hB hok rb 0 xs (List.replicate ms.length mv0) w (regG_reads hw hrow hrl (fun p hp => List.mem_append_left _ (List.mem_append_left _ hp))) (hst.reads hw (fun p hp => List.mem_append_left _ (List.mem_append_right _ hp))))) rfl ?_
   rintro _ _ (⟨cl3, cs3, Lc, hgc, rfl, hco3, hlc⟩ | ⟨hgc, rfl⟩)
   rotate_left
   · rw [getC_at hm, hcl] at hgc; cases hgc
   obtain rfl : cl = cl3 := by rw [getC_at hm, hcl] at hgc; exact Option.some.inj hgc
   refine RL.drop rfl (hlc.append (List.Sublist.refl _)) ?_
   have hid3 := hco3.len
   have hone3 := hco3.one
   obtain ⟨mb3, cm3, ml3, ib3, ci3, junk4, Lf3, Lq3, h183, hml3, rfl⟩ := hco3.first hl0 hll
   refine RL.move rfl ?_
   refine RL.extract rfl rfl rfl ?_
   refine RL.extract rfl rfl rfl ?_
   refine RL.alloc rfl rfl zt69 ?_
   intro b16 hb16
   dsimp only at hb16
   refine RL.stA rfl rfl ag69.size rfl rfl hid3 rfl hone3 ?_
   refine RL.assign rfl ?_
   refine RL.nil ?_
   refine X.seq ?_
   refine X.seq ?_
   refine X.draw (by kernel_rfl) (by kernel_rfl) ?_
   refine RL.fieldAddr rfl fd69_3 rfl ?_
   refine RL.loadO rfl sc67 rfl h183 ?_
   refine RL.indexAddr rfl sl67 rfl rfl rfl (j := 0) rfl (by omega) ?_
   refine RL.loadO rfl sc78 rfl (show ml3[0 + 0 * 1]? = _ from hml3) ?_
   refine RL.indexAddr rfl sl78 rfl rfl rfl (j := 0) rfl (by omega) ?_
   refine RL.fieldAddr rfl fd77_0 rfl ?_
   refine RL.loadO rfl sc3 rfl (ins_first hx0) ?_
   refine RL.move rfl ?_
   refine RL.move rfl ?_
   refine RL.indexAddr rfl sl28 rfl rfl rfl rfl hnl ?_
   refine RL.fieldAddr rfl fd69_3 rfl ?_
   refine RL.loadO rfl sc67 rfl h18f ?_
   refine RL.indexAddr rfl sl67 rfl rfl rfl (j := 0) rfl (by omega) ?_
   refine RL.loadO rfl sc78 rfl (show ml[0 + 0 * 1]? = _ from hml0) ?_
   refine RL.indexAddr rfl sl78 rfl rfl rfl (j := 0) rfl (by omega) ?_
   refine RL.fieldAddr rfl fd77_0 rfl ?_
   refine RL.loadO rfl sc3 rfl (List.getElem?_set_self (by simp [icells, ecells_len Ins.len]; omega)) ?_
   refine RL.cmp_f rfl rfl rfl rfl (by show ¬ ((_ : Int) = _); exact fun h => w64_ne _ h.symm) ?_
   refine RL.nil ?_
   refine X.cond_f rfl ?_
   refine X.skip ?_
   refine X.region rfl ?_
   refine RL.move rfl ?_
   refine RL.add rfl rfl rfl (by omega) ?_
   refine RL.assign rfl ?_
   refine RL.nil ?_
   refine X.blk ?_
   refine X.region rfl ?_
   refine RL.move rfl ?_
   refine RL.add rfl rfl rfl (by omega) ?_
   refine RL.assign rfl ?_
   refine RL.nil ?_
   refine X.hyp ⟨rfl, k + 1, by omega, _, ((((List.Sublist.refl _).append (((sb6 (sb0 _)).cons_cons _).cons_cons _)).trans (List.sublist_append_right _ _)).trans (List.sublist_cons_self _ _)), by omega, ⟨rfl, rfl, congrArg (Value.int .i64) (by push_cast; omega), rfl, rfl, rfl, rfl, trivial⟩, rfl⟩
  replace hk : ¬ ((_ : Int) < _) := hk
  obtain rfl : k = m.length := by omega
  have e : (allC (ms.take (g + 1))).length = (allC (ms.take g)).length + m.length := by rw [allC_succ hm, List.length_append, List.length_map]
  refine RL.nil ?_
  refine X.cond_f rfl ?_
  refine X.exit rfl ?_
  refine X.blk ?_
  refine X.region rfl ?_
  refine RL.move rfl ?_
  refine RL.add rfl rfl rfl (by omega) ?_
  refine RL.assign rfl ?_
  refine RL.nil ?_
  refine X.hyp ⟨rfl, g + 1, by omega, _, (by rw [e]; exact List.Sublist.refl _), by omega, ⟨rfl, rfl, by rw [e]; rfl, rfl, rfl, rfl, trivial⟩, rfl⟩
 replace hg : ¬ ((_ : Int) < _) := hg
 refine RL.nil ?_
 refine X.cond_f rfl ?_
 refine X.exit rfl ?_
 refine X.seq ?_
 refine X.region rfl ?_
 refine RL.fn0 rfl rfl rfl en16 (fun w hw => (f_awake w)) rfl ?_
 rintro _ _ rfl
 refine RL.drop rfl (List.sublist_append_right _ _) ?_
 refine RL.assign rfl ?_
 refine RL.nil ?_
 refine X.ret ?_
 exact ret1 rfl rfl
end Go.Proofs.Ytnebpklmbefmfaa

/- The law: what is taken, and found. -/
import Derived.Test.YtnebpklmbefmfaaS1
import Derived.Test.YtnebpklmbefmfaaE1
set_option linter.unusedVariables false
set_option linter.unusedSimpArgs false
namespace Go.Proofs.Ytnebpklmbefmfaa
open Go.RowKit
attribute [local irreducible] X RL W Ctr
set_option maxHeartbeats 1000000 in
set_option maxRecDepth 10000 in
theorem w_finds (ms : List (List Cl)) (A0 : Option Addr) (c0 : Nat) (delay : Int) (id : List Int) (hid : id.length = 16) (i k : Int) (w : World) (hms : ModsR w ms A0) (hB : MsB ms) :
    Ctr Try.prog 6 [.slice A0 ms.length c0, .int .i64 delay, .agg (gcells id).toArray, .int .i64 i, .int .i64 k] w [] fun v _ => v = .bool true := by
 refine Ctr.intro0 (n := 157) Try.func6 rfl Try.ntmps6 (Nat.le_of_ble_eq_true rfl) ?_
 refine X.seq ?_
 refine X.region rfl ?_
 refine RL.boxA rfl rfl rfl ?_
 intro b7 hb7
 dsimp only at hb7
 refine RL.assign rfl ?_
 refine RL.nil ?_
 refine X.seq ?_
 refine X.seq ?_
 refine X.region rfl ?_
 refine RL.move rfl ?_
 refine RL.fn (Lp := []) (Lr := [(b7, cel 47 (gcells id))]) rfl rfl rfl en25 (List.Perm.refl _) (fun w1 hw1 => f_great ms A0 c0 w1 (hms.st0 hw1)) rfl ?_
 rintro _ Lz ⟨q, rfl, hq⟩
 refine RL.drop (L' := [(b7, cel 47 (gcells id))]) rfl (List.sublist_append_right _ _) ?_
 cases q
 rotate_left
 ·refine RL.nil ?_
  refine X.cond_t rfl ?_
  refine X.seq ?_
  refine X.region rfl ?_
  refine RL.fn0 rfl rfl rfl en16 (fun w hw => (f_awake w)) rfl ?_
  rintro _ _ rfl
  refine RL.drop rfl (List.sublist_append_right _ _) ?_
  refine RL.assign rfl ?_
  refine RL.nil ?_
  refine X.ret ?_
  exact ret1 rfl rfl
 obtain ⟨hl6, hsz⟩ := hq rfl
 obtain ⟨vs, hrd, hsta⟩ := hms
 have hms : ModsR w ms A0 := ⟨vs, hrd, hsta⟩
 have hrd2 := hrd
 obtain ⟨bb, oo, hA0, hvs⟩ := hrd2
 have hvl := hsta.len
 refine RL.nil ?_
 refine X.cond_f rfl ?_
 refine X.skip ?_
 refine X.seq ?_
 refine X.region rfl ?_
 refine RL.move rfl ?_
 refine RL.move rfl ?_
 refine RL.fn (Lp := []) (Lr := [(b7, cel 47 (gcells id))]) rfl rfl rfl en10 (List.Perm.refl _) (fun w1 hw1 => f_new ms hsz A0 c0 delay (by omega) w1 (hms.st0 hw1) hB) rfl ?_
 rintro _ Lz (⟨hne, rfl⟩ | ⟨hN, rb, A, cp, Lr, xs, Lst, rfl, hrow, hst, hsub⟩)
 ·refine RL.drop (L' := [(b7, cel 47 (gcells id))]) rfl (List.sublist_append_right _ _) ?_
  refine RL.move rfl ?_
  refine RL.extract rfl rfl rfl ?_
  refine RL.extract rfl rfl rfl ?_
  refine RL.assign rfl ?_
  refine RL.assign rfl ?_
  refine RL.nil ?_
  refine X.seq ?_
  refine X.region rfl ?_
  refine RL.move rfl ?_
  refine RL.move rfl ?_
  refine RL.fn (Lp := []) (Lr := [(b7, cel 47 (gcells id))]) rfl rfl rfl en19 (List.Perm.refl _) (fun w1 hw1 => f_xnew ms hsz A0 c0 delay (by omega) vs w1 (hrd.st0 hw1) (hsta.st0 hw1)) rfl ?_
  rintro _ Lz2 (⟨_, rfl⟩ | ⟨hN, _⟩)
  rotate_left
  · exact absurd hN hne
  refine RL.drop rfl (List.sublist_append_right _ _) ?_
  refine RL.move rfl ?_
  refine RL.extract rfl rfl rfl ?_
  refine RL.extract rfl rfl rfl ?_
  refine RL.assign rfl ?_
  refine RL.assign rfl ?_
  refine RL.nil ?_
  refine X.seq ?_
  refine X.seq ?_
  refine X.region rfl ?_
  refine RL.move rfl ?_
  refine RL.cmp_t rfl rfl rfl rfl (by show ((_ : Int) ≠ _); exact hne) ?_
  refine RL.nil ?_
  refine X.cond_t rfl ?_
  refine X.seq ?_
  refine X.region rfl ?_
  refine RL.move rfl ?_
  refine RL.move rfl ?_
  refine RL.cmp_t rfl rfl rfl rfl (by show ((_ : Int) = _); rfl) ?_
  refine RL.move rfl ?_
  refine RL.move rfl ?_
  refine RL.eqP rfl Try.underlying24 rfl rfl rfl ?_
  refine RL.pick_t rfl rfl ?_
  refine RL.move rfl ?_
  refine RL.fn0 rfl rfl rfl en16 (fun w hw => (f_awake w)) rfl ?_
  rintro _ _ rfl
  refine RL.drop rfl (List.sublist_append_right _ _) ?_
  refine RL.pick_t rfl rfl ?_
  refine RL.assign rfl ?_
  refine RL.nil ?_
  refine X.ret ?_
  exact ret1 rfl rfl
 obtain ⟨hl4, hok⟩ := newP_all hN
 have hxl : xs.length = ms.length := hst.len
 have hrl : (List.replicate ms.length mv0).length = xs.length := by rw [List.length_replicate]; exact hxl.symm
 refine RL.drop (L' := RegG rb A cp Lr delay xs (List.replicate ms.length mv0) ++ (Lst ++ [(b7, cel 47 (gcells id))])) rfl (by rw [← List.append_assoc]; exact hsub.append (List.Sublist.refl _)) ?_
 refine RL.move rfl ?_
 refine RL.extract rfl rfl rfl ?_
 refine RL.extract rfl rfl rfl ?_
 refine RL.assign rfl ?_
 refine RL.assign rfl ?_
 refine RL.nil ?_
 refine X.seq ?_
 refine X.region rfl ?_
 refine RL.move rfl ?_
 refine RL.move rfl ?_
 refine RL.fn (Lp := []) (Lr := RegG rb A cp Lr delay xs (List.replicate ms.length mv0) ++ (Lst ++ [(b7, cel 47 (gcells id))])) rfl rfl rfl en19 (List.Perm.refl _) (fun w1 hw1 => f_xnew ms hsz A0 c0 delay (by omega) vs w1 (hrd.st0 hw1) (hsta.st0 hw1)) rfl ?_
 rintro _ Lz2 (⟨hne, _⟩ | ⟨_, xb, cb, cp2, junk, rfl, hsub2⟩)
 · exact absurd hN hne
 have hvl2 : vs.length = (List.replicate ms.length mv0).length := by rw [List.length_replicate]; exact hvl
 refine RL.drop (L' := RefG xb cb cp2 junk delay vs (List.replicate ms.length mv0) ms.length ++ (RegG rb A cp Lr delay xs (List.replicate ms.length mv0) ++ (Lst ++ [(b7, cel 47 (gcells id))]))) rfl (hsub2.append (List.Sublist.refl _)) ?_
 refine RL.move rfl ?_
 refine RL.extract rfl rfl rfl ?_
 refine RL.extract rfl rfl rfl ?_
 refine RL.assign rfl ?_
 refine RL.assign rfl ?_
 refine RL.nil ?_
 refine X.seq ?_
 refine X.seq ?_
 refine X.region rfl ?_
 refine RL.move rfl ?_
 refine RL.cmp_f rfl rfl rfl rfl (by show ¬ ((_ : Int) ≠ _); exact fun h => h rfl) ?_
 refine RL.nil ?_
 refine X.cond_f rfl ?_
 refine X.skip ?_
 refine X.seq ?_
 refine X.seq ?_
 refine X.region rfl ?_
 refine RL.move rfl ?_
 refine RL.cmp_f rfl rfl rfl rfl (by show ¬ ((_ : Int) ≠ _); exact fun h => h rfl) ?_
 refine RL.nil ?_
 refine X.cond_f rfl ?_
 refine X.skip ?_
 refine X.seq ?_
 refine X.region rfl ?_
 refine RL.move rfl ?_
 refine RL.loadOA rfl ag47 rfl (take_all (gcells_length hid)) (gcells_length hid) ?_
 refine RL.fn0 rfl rfl rfl en18 (fun w hw => ((f_rfind ms hsz (by omega) id hid rb delay xs (List.replicate ms.length mv0) w (regG_reads hw hrow hrl (fun p hp => List.mem_append_right _ (List.mem_append_left _ hp))) (hst.reads hw (fun p hp => List.mem_append_right _ (List.mem_append_right _ (List.mem_append_left _ hp))))).mono fun v L h => f_tup h)) rfl ?_
 rintro _ _ rfl
 refine RL.drop rfl (List.sublist_append_right _ _) ?_
 refine RL.move rfl ?_
 refine RL.extract rfl rfl rfl ?_
 refine RL.extract rfl rfl rfl ?_
 refine RL.extract rfl rfl rfl ?_
 refine RL.assign rfl ?_
 refine RL.assign rfl ?_
 refine RL.assign rfl ?_
 refine RL.nil ?_
 refine X.seq ?_
 refine X.region rfl ?_
 refine RL.move rfl ?_
 refine RL.loadOA rfl ag47 rfl (take_all (gcells_length hid)) (gcells_length hid) ?_
 refine RL.fn0 rfl rfl rfl en26 (fun w hw => ((f_xfind ms hsz (by omega) id hid xb delay vs (List.replicate ms.length mv0) w (refR_own hw hvl2 List.length_replicate.symm (fun p hp => List.mem_append_left _ hp)) (hsta.st0 hw)).mono fun v L h => g_tup h)) rfl ?_
 rintro _ _ rfl
 refine RL.drop rfl (List.sublist_append_right _ _) ?_
 refine RL.move rfl ?_
 refine RL.extract rfl rfl rfl ?_
 refine RL.extract rfl rfl rfl ?_
 refine RL.assign rfl ?_
 refine RL.assign rfl ?_
 refine RL.nil ?_
 refine X.seq ?_
 refine X.seq ?_
 refine X.cut (fun ρ ds L => ds = [] ∧ Has ρ [(0, .slice A0 ms.length c0), (3, .int .i64 i), (4, .int .i64 k), (11, .pointer (some ⟨rb, 0, none⟩)), (95, .bool false)] ∧ L = RefG xb cb cp2 junk delay vs (List.replicate ms.length mv0) ms.length ++ (RegG rb A cp Lr delay xs (List.replicate ms.length mv0) ++ (Lst ++ [(b7, cel 47 (gcells id))]))) ?_ ?_
 ·refine X.region rfl ?_
  refine RL.move rfl ?_
  refine RL.cmp_s rfl rfl rfl rfl (fun hn => ?_) (fun hn => ?_)
  ·replace hn : (_ : Int) < _ := hn
   obtain ⟨h1, h2, h3⟩ := fg_none hn
   refine RL.move rfl ?_
   refine RL.move rfl ?_
   refine RL.cmp_f rfl rfl rfl rfl (by show ¬ ((_ : Int) ≠ _); exact fun h => h h1) ?_
   refine RL.move rfl ?_
   refine RL.move rfl ?_
   refine RL.cmp_f rfl rfl rfl rfl (by show ¬ ((_ : Int) ≠ _); exact fun h => h h2) ?_
   refine RL.pick_f rfl rfl ?_
   refine RL.move rfl ?_
   refine RL.move rfl ?_
   refine RL.cmp_f rfl rfl rfl rfl (by show ¬ ((_ : Int) ≠ _); exact fun h => h h3) ?_
   refine RL.pick_f rfl rfl ?_
   refine RL.pick_t rfl rfl ?_
   refine RL.move rfl ?_
   refine RL.move rfl ?_
   refine RL.cmp_f rfl rfl rfl rfl (by show ¬ ((_ : Int) ≥ _); omega) ?_
   refine RL.move rfl ?_
   refine RL.skip rfl ?_
   refine RL.skip rfl ?_
   refine RL.skip rfl ?_
   refine RL.skip rfl ?_
   refine RL.skip rfl ?_
   refine RL.skip rfl ?_
   refine RL.skip rfl ?_
   refine RL.skip rfl ?_
   refine RL.skip rfl ?_
   refine RL.skip rfl ?_
   refine RL.skip rfl ?_
   refine RL.skip rfl ?_
   refine RL.pick_f rfl rfl ?_
   refine RL.pick_f rfl rfl ?_
   refine RL.nil ?_
   refine X.hyp ⟨rfl, ⟨rfl, rfl, rfl, rfl, rfl, trivial⟩, rfl⟩
  replace hn : ¬ ((_ : Int) < _) := hn
  obtain ⟨h1, h2⟩ := fg_some hn
  refine RL.move rfl ?_
  refine RL.skip rfl ?_
  refine RL.skip rfl ?_
  refine RL.skip rfl ?_
  refine RL.skip rfl ?_
  refine RL.skip rfl ?_
  refine RL.skip rfl ?_
  refine RL.skip rfl ?_
  refine RL.skip rfl ?_
  refine RL.skip rfl ?_
  refine RL.skip rfl ?_
  refine RL.pick_f rfl rfl ?_
  refine RL.move rfl ?_
  refine RL.move rfl ?_
  refine RL.cmp_t rfl rfl rfl rfl (by show ((_ : Int) ≥ _); omega) ?_
  refine RL.move rfl ?_
  refine RL.move rfl ?_
  refine RL.move rfl ?_
  refine RL.cmp_f rfl rfl rfl rfl (by show ¬ ((_ : Int) ≠ _); exact fun h => h h1) ?_
  refine RL.move rfl ?_
  refine RL.move rfl ?_
  refine RL.move rfl ?_
  refine RL.cmp_f rfl rfl rfl rfl (by show ¬ ((_ : Int) ≠ _); exact fun h => h rfl) ?_
  refine RL.pick_f rfl rfl ?_
  refine RL.move rfl ?_
  refine RL.move rfl ?_
  refine RL.cmp_f rfl rfl rfl rfl (by show ¬ ((_ : Int) ≠ _); exact fun h => h h2) ?_
  refine RL.pick_f rfl rfl ?_
  refine RL.pick_t rfl rfl ?_
  refine RL.pick_f rfl rfl ?_
  refine RL.nil ?_
  refine X.hyp ⟨rfl, ⟨rfl, rfl, rfl, rfl, rfl, trivial⟩, rfl⟩
 rintro _ _ _ ⟨rfl, hρ, rfl⟩
 obtain ⟨base, rfl⟩ := hρ.base
 clear hρ
 refine X.cond_f rfl ?_
 refine X.skip ?_
 refine X.seq ?_
 refine X.region rfl ?_
 refine RL.move rfl ?_
 refine RL.move rfl ?_
 refine RL.move rfl ?_
 refine RL.fn (Lp := []) (Lr := RefG xb cb cp2 junk delay vs (List.replicate ms.length mv0) ms.length ++ (RegG rb A cp Lr delay xs (List.replicate ms.length mv0) ++ (Lst ++ [(b7, cel 47 (gcells id))]))) rfl rfl rfl en27 (List.Perm.refl _) (fun w1 hw1 => by
   have hw2 : St w [] w1 (RefG xb cb cp2 junk delay vs (List.replicate ms.length mv0) ms.length ++ (RegG rb A cp Lr delay xs (List.replicate ms.length mv0) ++ (Lst ++ [(b7, cel 47 (gcells id))]))) := hw1
   exact f_class i k ms hB hok rb delay xs (List.replicate ms.length mv0) w1 (regG_reads hw2 hrow hrl (fun p hp => List.mem_append_right _ (List.mem_append_left _ hp))) (hst.reads hw2 (fun p hp => List.mem_append_right _ (List.mem_append_right _ (List.mem_append_left _ hp))))) rfl ?_
 rintro _ Lz3 (⟨cl, cs, Lc, hgc, rfl, hco, hlc⟩ | ⟨hgc, rfl⟩)
 ·obtain ⟨j, g, m, rfl, rfl, hm, hcl⟩ := getC_some hgc
  obtain ⟨Am, cm, hv0, hmr⟩ := hsta.get j m hm
  obtain ⟨bb2, oo2, hAm, hcc⟩ := hmr.open
  obtain ⟨cs2, hcs2, hcr2⟩ := hcc g cl hcl
  have hjl := (List.getElem?_eq_some_iff.1 hm).1
  have hgl := (List.getElem?_eq_some_iff.1 hcl).1
  have hcz := (hsz.get hm).2 cl (List.mem_of_getElem? hcl)
  refine RL.drop (L' := Lc) rfl (hlc.trans (List.sublist_append_left _ _)) ?_
  refine RL.move rfl ?_
  refine RL.extract rfl rfl rfl ?_
  refine RL.extract rfl rfl rfl ?_
  refine RL.alloc rfl rfl zt69 ?_
  intro b20 hb20
  dsimp only at hb20
  refine RL.stA rfl rfl ag69.size rfl rfl hco.len rfl hco.one ?_
  refine RL.assign rfl ?_
  refine RL.nil ?_
  refine X.seq ?_
  refine X.seq ?_
  refine X.region rfl ?_
  refine RL.move rfl ?_
  refine RL.cmp_f rfl rfl rfl rfl (by show ¬ ((_ : Int) < _); omega) ?_
  refine RL.move rfl ?_
  refine RL.move rfl ?_
  refine RL.move rfl ?_
  refine RL.len rfl sl32 rfl ?_
  refine RL.cmp_f rfl rfl rfl rfl (by show ¬ ((_ : Int) ≥ _); omega) ?_
  refine RL.pick_f rfl rfl ?_
  refine RL.move rfl ?_
  refine RL.move rfl ?_
  refine RL.cmp_f rfl rfl rfl rfl (by show ¬ ((_ : Int) < _); omega) ?_
  refine RL.pick_f rfl rfl ?_
  refine RL.move rfl ?_
  refine RL.move rfl ?_
  refine RL.move rfl ?_
  refine RL.move rfl ?_
  refine RL.indexAddr rfl sl32 rfl rfl (hA0 (by omega)) rfl (by omega) ?_
  refine RL.fieldAddr rfl fd30_0 rfl ?_
  refine RL.loadI rfl sc28 rfl (cells_one hvs hv0 0 _ rfl) (by simp) ?_
  refine RL.len rfl sl28 rfl ?_
  refine RL.cmp_f rfl rfl rfl rfl (by show ¬ ((_ : Int) ≥ _); omega) ?_
  refine RL.pick_f rfl rfl ?_
  refine RL.nil ?_
  refine X.cond_f rfl ?_
  refine X.skip ?_
  refine X.seq ?_
  have hL0 : ∀ p ∈ Lc, p ∈ (b20, cel 69 cs) :: Lc := fun p hp => List.mem_cons_of_mem _ hp
  refine X.any [.val (.int .i64 0), .val (.bool true), .val (.bool true), .val (.agg cs.toArray), slF cs, mdF cs, .val (.slice A0 ms.length c0), .val (.int .i64 j), .val (.pointer (some ⟨bb, oo + j * 1, none⟩)), .val (.pointer (some ⟨bb, oo + j * 1 + 0, none⟩)), .val (.slice Am m.length cm), .val (.int .i64 g), .val (.pointer (some ⟨bb2, oo2 + g * 19, none⟩)), .val (.agg cs2.toArray), slF cs2, mdF cs2, .val (.bool true), .val (.bool true), .val (.bool true), .val (.bool true), .val (.bool true), .val (.bool true)] rfl (by kernel_rfl) (by kernel_rfl) (by kernel_rfl) ⟨?_, ?_, ?_, ?_, ?_, ?_, ?_, ?_, ?_, ?_, ?_, ?_, ?_, ?_, ?_, ?_, ?_, ?_, ?_, ?_, ?_, ?_, trivial⟩ ?_
  ·intro ρ L hF hfix hold hL
   have u21 : ρ 21 = .int .i64 0 := hfix 21 (by decide)
   obtain ⟨base, rfl⟩ := Has.base (ρ := ρ) (l := [(21, .int .i64 0)]) ⟨u21, trivial⟩
   refine RL.move rfl ?_
   refine RL.nil ?_
   exact ⟨rfl, ⟨_, rfl, rfl⟩, fun p hp => hp⟩
  ·intro ρ L hF hfix hold hL
   have u136 : ρ 136 = .int .i64 0 := hF ⟨0, Ground.data⟩ (by simp) rfl _ _ rfl rfl
   obtain ⟨base, rfl⟩ := Has.base (ρ := ρ) (l := [(136, .int .i64 0)]) ⟨u136, trivial⟩
   refine RL.cmp_t rfl rfl rfl rfl (by show ((_ : Int) = _); rfl) ?_
   refine RL.nil ?_
   exact ⟨rfl, ⟨_, rfl, rfl⟩, fun p hp => hp⟩
  ·intro ρ L hF hfix hold hL
   have u137 : ρ 137 = .bool true := hF ⟨1, Ground.data⟩ (by simp) rfl _ _ rfl rfl
   obtain ⟨base, rfl⟩ := Has.base (ρ := ρ) (l := [(137, .bool true)]) ⟨u137, trivial⟩
   refine RL.move rfl ?_
   refine RL.nil ?_
   exact ⟨rfl, ⟨_, rfl, rfl⟩, fun p hp => hp⟩
  ·intro ρ L hF hfix hold hL
   have u138 : ρ 138 = .bool true := hF ⟨2, Ground.guard⟩ (by simp) rfl _ _ rfl rfl
   have u20 : ρ 20 = .pointer (some ⟨b20, 0, none⟩) := hfix 20 (by decide)
   obtain ⟨base, rfl⟩ := Has.base (ρ := ρ) (l := [(138, .bool true), (20, .pointer (some ⟨b20, 0, none⟩))]) ⟨u138, u20, trivial⟩
   have hb : HasE b20 (cel 69 cs) L := ⟨hL _ List.mem_cons_self⟩
   refine RL.loadOA rfl ag69 rfl (take_all hco.len) hco.len ?_
   refine RL.nil ?_
   exact ⟨rfl, ⟨_, rfl, rfl⟩, fun p hp => hp⟩
  ·intro ρ L hF hfix hold hL
   have u138 : ρ 138 = .bool true := hF ⟨2, Ground.guard⟩ (by simp) rfl _ _ rfl rfl
   have u139 : ρ 139 = .agg cs.toArray := hF ⟨3, Ground.data⟩ (by simp) rfl _ _ rfl rfl
   obtain ⟨base, rfl⟩ := Has.base (ρ := ρ) (l := [(138, .bool true), (139, .agg cs.toArray)]) ⟨u138, u139, trivial⟩
   refine RL.bs1A (l := cs) rfl rfl sl28 zt69 rfl hco.len (by decide) ?_
   intro bx hbx
   refine RL.nil ?_
   exact ⟨rfl, ⟨_, rfl, ⟨bx, rfl, List.mem_cons_self⟩⟩, fun p hp => List.mem_cons_of_mem _ hp⟩
  ·intro ρ L hF hfix hold hL
   have u138 : ρ 138 = .bool true := hF ⟨2, Ground.guard⟩ (by simp) rfl _ _ rfl rfl
   obtain ⟨b140, u140, m140⟩ := hF ⟨4, Ground.data⟩ (by simp) rfl _ _ rfl rfl
   obtain ⟨base, rfl⟩ := Has.base (ρ := ρ) (l := [(138, .bool true), (140, .slice (some ⟨b140, 0, none⟩) 1 1)]) ⟨u138, u140, trivial⟩
   refine RL.bldC (vs := [(0, .slice (some ⟨b140, 0, none⟩) 1 1)]) (cells := [.slice (some ⟨b140, 0, none⟩) 1 1]) rfl rfl (fun w => by kernel_rfl) ?_
   refine RL.nil ?_
   exact ⟨rfl, ⟨_, rfl, ⟨b140, rfl, m140⟩⟩, fun p hp => hp⟩
  ·intro ρ L hF hfix hold hL
   have u138 : ρ 138 = .bool true := hF ⟨2, Ground.guard⟩ (by simp) rfl _ _ rfl rfl
   have u0 : ρ 0 = .slice A0 ms.length c0 := hfix 0 (by decide)
   obtain ⟨base, rfl⟩ := Has.base (ρ := ρ) (l := [(138, .bool true), (0, .slice A0 ms.length c0)]) ⟨u138, u0, trivial⟩
   refine RL.move rfl ?_
   refine RL.nil ?_
   exact ⟨rfl, ⟨_, rfl, rfl⟩, fun p hp => hp⟩
  ·intro ρ L hF hfix hold hL
   have u138 : ρ 138 = .bool true := hF ⟨2, Ground.guard⟩ (by simp) rfl _ _ rfl rfl
   have u3 : ρ 3 = .int .i64 j := hfix 3 (by decide)
   obtain ⟨base, rfl⟩ := Has.base (ρ := ρ) (l := [(138, .bool true), (3, .int .i64 j)]) ⟨u138, u3, trivial⟩
   refine RL.move rfl ?_
   refine RL.nil ?_
   exact ⟨rfl, ⟨_, rfl, rfl⟩, fun p hp => hp⟩
  ·intro ρ L hF hfix hold hL
   have u138 : ρ 138 = .bool true := hF ⟨2, Ground.guard⟩ (by simp) rfl _ _ rfl rfl
   have u142 : ρ 142 = .slice A0 ms.length c0 := hF ⟨6, Ground.data⟩ (by simp) rfl _ _ rfl rfl
   have u143 : ρ 143 = .int .i64 j := hF ⟨7, Ground.data⟩ (by simp) rfl _ _ rfl rfl
   obtain ⟨base, rfl⟩ := Has.base (ρ := ρ) (l := [(138, .bool true), (142, .slice A0 ms.length c0), (143, .int .i64 j)]) ⟨u138, u142, u143, trivial⟩
   refine RL.indexAddr rfl sl32 rfl rfl (hA0 (by omega)) rfl (by omega) ?_
   refine RL.nil ?_
   exact ⟨rfl, ⟨_, rfl, rfl⟩, fun p hp => hp⟩
  ·intro ρ L hF hfix hold hL
   have u138 : ρ 138 = .bool true := hF ⟨2, Ground.guard⟩ (by simp) rfl _ _ rfl rfl
   have u144 : ρ 144 = .pointer (some ⟨bb, oo + j * 1, none⟩) := hF ⟨8, Ground.data⟩ (by simp) rfl _ _ rfl rfl
   obtain ⟨base, rfl⟩ := Has.base (ρ := ρ) (l := [(138, .bool true), (144, .pointer (some ⟨bb, oo + j * 1, none⟩))]) ⟨u138, u144, trivial⟩
   refine RL.fieldAddr rfl fd30_0 rfl ?_
   refine RL.nil ?_
   exact ⟨rfl, ⟨_, rfl, rfl⟩, fun p hp => hp⟩
  ·intro ρ L hF hfix hold hL
   have u138 : ρ 138 = .bool true := hF ⟨2, Ground.guard⟩ (by simp) rfl _ _ rfl rfl
   have u145 : ρ 145 = .pointer (some ⟨bb, oo + j * 1 + 0, none⟩) := hF ⟨9, Ground.data⟩ (by simp) rfl _ _ rfl rfl
   obtain ⟨base, rfl⟩ := Has.base (ρ := ρ) (l := [(138, .bool true), (145, .pointer (some ⟨bb, oo + j * 1 + 0, none⟩))]) ⟨u138, u145, trivial⟩
   refine RL.loadI rfl sc28 rfl (cells_one hvs hv0 0 _ rfl) (by simp) ?_
   refine RL.nil ?_
   exact ⟨rfl, ⟨_, rfl, rfl⟩, fun p hp => hp⟩
  ·intro ρ L hF hfix hold hL
   have u138 : ρ 138 = .bool true := hF ⟨2, Ground.guard⟩ (by simp) rfl _ _ rfl rfl
   have u4 : ρ 4 = .int .i64 g := hfix 4 (by decide)
   obtain ⟨base, rfl⟩ := Has.base (ρ := ρ) (l := [(138, .bool true), (4, .int .i64 g)]) ⟨u138, u4, trivial⟩
   refine RL.move rfl ?_
   refine RL.nil ?_
   exact ⟨rfl, ⟨_, rfl, rfl⟩, fun p hp => hp⟩
  ·intro ρ L hF hfix hold hL
   have u138 : ρ 138 = .bool true := hF ⟨2, Ground.guard⟩ (by simp) rfl _ _ rfl rfl
   have u146 : ρ 146 = .slice Am m.length cm := hF ⟨10, Ground.data⟩ (by simp) rfl _ _ rfl rfl
   have u147 : ρ 147 = .int .i64 g := hF ⟨11, Ground.data⟩ (by simp) rfl _ _ rfl rfl
   obtain ⟨base, rfl⟩ := Has.base (ρ := ρ) (l := [(138, .bool true), (146, .slice Am m.length cm), (147, .int .i64 g)]) ⟨u138, u146, u147, trivial⟩
   refine RL.indexAddr rfl sl28 rfl rfl (hAm (by omega)) rfl (by omega) ?_
   refine RL.nil ?_
   exact ⟨rfl, ⟨_, rfl, rfl⟩, fun p hp => hp⟩
  ·intro ρ L hF hfix hold hL
   have u138 : ρ 138 = .bool true := hF ⟨2, Ground.guard⟩ (by simp) rfl _ _ rfl rfl
   have u148 : ρ 148 = .pointer (some ⟨bb2, oo2 + g * 19, none⟩) := hF ⟨12, Ground.data⟩ (by simp) rfl _ _ rfl rfl
   obtain ⟨base, rfl⟩ := Has.base (ρ := ρ) (l := [(138, .bool true), (148, .pointer (some ⟨bb2, oo2 + g * 19, none⟩))]) ⟨u138, u148, trivial⟩
   refine RL.loadIA rfl ag69 rfl hcs2 (by simp) hcr2.len ?_
   refine RL.nil ?_
   exact ⟨rfl, ⟨_, rfl, rfl⟩, fun p hp => hp⟩
  ·intro ρ L hF hfix hold hL
   have u138 : ρ 138 = .bool true := hF ⟨2, Ground.guard⟩ (by simp) rfl _ _ rfl rfl
   have u149 : ρ 149 = .agg cs2.toArray := hF ⟨13, Ground.data⟩ (by simp) rfl _ _ rfl rfl
   obtain ⟨base, rfl⟩ := Has.base (ρ := ρ) (l := [(138, .bool true), (149, .agg cs2.toArray)]) ⟨u138, u149, trivial⟩
   refine RL.bs1A (l := cs2) rfl rfl sl28 zt69 rfl hcr2.len (by decide) ?_
   intro bx hbx
   refine RL.nil ?_
   exact ⟨rfl, ⟨_, rfl, ⟨bx, rfl, List.mem_cons_self⟩⟩, fun p hp => List.mem_cons_of_mem _ hp⟩
  ·intro ρ L hF hfix hold hL
   have u138 : ρ 138 = .bool true := hF ⟨2, Ground.guard⟩ (by simp) rfl _ _ rfl rfl
   obtain ⟨b150, u150, m150⟩ := hF ⟨14, Ground.data⟩ (by simp) rfl _ _ rfl rfl
   obtain ⟨base, rfl⟩ := Has.base (ρ := ρ) (l := [(138, .bool true), (150, .slice (some ⟨b150, 0, none⟩) 1 1)]) ⟨u138, u150, trivial⟩
   refine RL.bldC (vs := [(0, .slice (some ⟨b150, 0, none⟩) 1 1)]) (cells := [.slice (some ⟨b150, 0, none⟩) 1 1]) rfl rfl (fun w => by kernel_rfl) ?_
   refine RL.nil ?_
   exact ⟨rfl, ⟨_, rfl, ⟨b150, rfl, m150⟩⟩, fun p hp => hp⟩
  ·intro ρ L hF hfix hold hL
   have u138 : ρ 138 = .bool true := hF ⟨2, Ground.chain⟩ (by simp) rfl _ _ rfl rfl
   obtain ⟨b141, u141, m141⟩ := hF ⟨5, Ground.data⟩ (by simp) rfl _ _ rfl rfl
   obtain ⟨b151, u151, m151⟩ := hF ⟨15, Ground.data⟩ (by simp) rfl _ _ rfl rfl
   obtain ⟨base, rfl⟩ := Has.base (ρ := ρ) (l := [(138, .bool true), (141, .agg #[.slice (some ⟨b141, 0, none⟩) 1 1]), (151, .agg #[.slice (some ⟨b151, 0, none⟩) 1 1])]) ⟨u138, u141, u151, trivial⟩
   refine RL.fnQ (v := .bool true) rfl rfl en28 (fun w1 hw1 => f_same [cl] (fun c hc => by rw [List.mem_singleton] at hc; subst hc; exact hcz) (by show 1 ≤ 1000; decide) _ _ _ _ w1 (one_rd hw1 m141 (hco.reads hw1 (fun p hp => hL _ (hL0 p hp)))) (one_rd hw1 m151 (hcr2.st0 hw1))) rfl ?_
   refine RL.nil ?_
   exact ⟨rfl, ⟨_, rfl, rfl⟩, fun p hp => hp⟩
  ·intro ρ L hF hfix hold hL
   have u138 : ρ 138 = .bool true := hF ⟨2, Ground.data⟩ (by simp) rfl _ _ rfl rfl
   have u152 : ρ 152 = .bool true := hF ⟨16, Ground.data⟩ (by simp) rfl _ _ rfl rfl
   obtain ⟨base, rfl⟩ := Has.base (ρ := ρ) (l := [(138, .bool true), (152, .bool true)]) ⟨u138, u152, trivial⟩
   refine RL.pick_t rfl rfl ?_
   refine RL.nil ?_
   exact ⟨rfl, ⟨_, rfl, rfl⟩, fun p hp => hp⟩
  ·intro ρ L hF hfix hold hL
   have u153 : ρ 153 = .bool true := hF ⟨17, Ground.data⟩ (by simp) rfl _ _ rfl rfl
   obtain ⟨base, rfl⟩ := Has.base (ρ := ρ) (l := [(153, .bool true)]) ⟨u153, trivial⟩
   refine RL.move rfl ?_
   refine RL.nil ?_
   exact ⟨rfl, ⟨_, rfl, rfl⟩, fun p hp => hp⟩
  ·intro ρ L hF hfix hold hL
   have u154 : ρ 154 = .bool true := hF ⟨18, Ground.chain⟩ (by simp) rfl _ _ rfl rfl
   obtain ⟨base, rfl⟩ := Has.base (ρ := ρ) (l := [(154, .bool true)]) ⟨u154, trivial⟩
   refine RL.fnQ (v := .bool true) rfl rfl en16 (fun w1 hw1 => f_awake w1) rfl ?_
   refine RL.nil ?_
   exact ⟨rfl, ⟨_, rfl, rfl⟩, fun p hp => hp⟩
  ·intro ρ L hF hfix hold hL
   have u154 : ρ 154 = .bool true := hF ⟨18, Ground.data⟩ (by simp) rfl _ _ rfl rfl
   have u155 : ρ 155 = .bool true := hF ⟨19, Ground.data⟩ (by simp) rfl _ _ rfl rfl
   obtain ⟨base, rfl⟩ := Has.base (ρ := ρ) (l := [(154, .bool true), (155, .bool true)]) ⟨u154, u155, trivial⟩
   refine RL.pick_t rfl rfl ?_
   refine RL.nil ?_
   exact ⟨rfl, ⟨_, rfl, rfl⟩, fun p hp => hp⟩
  ·intro ρ L hF hfix hold hL
   have u156 : ρ 156 = .bool true := hF ⟨20, Ground.data⟩ (by simp) rfl _ _ rfl rfl
   obtain ⟨base, rfl⟩ := Has.base (ρ := ρ) (l := [(156, .bool true)]) ⟨u156, trivial⟩
   refine RL.assign rfl ?_
   refine RL.nil ?_
   exact ⟨rfl, ⟨_, rfl, rfl⟩, fun p hp => hp⟩
  intro ρ L hT hfix hL
  have u10 : ρ 10 = .bool true := hT 21 _ _ rfl rfl
  obtain ⟨base, rfl⟩ := Has.base (ρ := ρ) (l := [(10, .bool true)]) ⟨u10, trivial⟩
  refine X.ret ?_
  exact ret1 rfl rfl
 refine RL.drop (L' := []) rfl (List.nil_sublist _) ?_
 refine RL.move rfl ?_
 refine RL.extract rfl rfl rfl ?_
 refine RL.extract rfl rfl rfl ?_
 refine RL.alloc rfl rfl zt69 ?_
 intro b20 hb20
 dsimp only at hb20
 refine RL.stA rfl rfl ag69.size rfl rfl rfl rfl (by simp [Value.oneCell']) ?_
 refine RL.assign rfl ?_
 refine RL.nil ?_
 refine X.seq ?_
 refine X.seq ?_
 refine X.region rfl ?_
 refine RL.move rfl ?_
 refine RL.cmp_s rfl rfl rfl rfl (fun h1 => ?_) (fun h1 => ?_)
 ·replace h1 : (_ : Int) < _ := h1
  refine RL.move rfl ?_
  refine RL.skip rfl ?_
  refine RL.skip rfl ?_
  refine RL.skip rfl ?_
  refine RL.skip rfl ?_
  refine RL.pick_t rfl rfl ?_
  refine RL.move rfl ?_
  refine RL.skip rfl ?_
  refine RL.skip rfl ?_
  refine RL.pick_t rfl rfl ?_
  refine RL.move rfl ?_
  refine RL.skip rfl ?_
  refine RL.skip rfl ?_
  refine RL.skip rfl ?_
  refine RL.skip rfl ?_
  refine RL.skip rfl ?_
  refine RL.skip rfl ?_
  refine RL.skip rfl ?_
  refine RL.skip rfl ?_
  refine RL.pick_t rfl rfl ?_
  refine RL.nil ?_
  refine X.cond_t rfl ?_
  refine X.seq ?_
  refine X.region rfl ?_
  refine RL.move rfl ?_
  refine RL.cmp_t rfl rfl rfl rfl (by show ((_ : Int) = _); rfl) ?_
  refine RL.move rfl ?_
  refine RL.fieldAddr rfl fd69_3 rfl ?_
  refine RL.loadO rfl sc67 rfl (show ([.int .u8 0, .int .u8 0, .int .u8 0, .int .u8 0, .int .u8 0, .int .u8 0, .int .u8 0, .int .u8 0, .int .u8 0, .int .u8 0, .int .u8 0, .int .u8 0, .int .u8 0, .int .u8 0, .int .u8 0, .int .u8 0, .slice none 0 0, .int .i64 0, .slice none 0 0] : List Value)[0 + 18]? = some (.slice none 0 0) from rfl) ?_
  refine RL.len rfl sl67 rfl ?_
  refine RL.cmp_t rfl rfl rfl rfl (by show ((_ : Int) = _); rfl) ?_
  refine RL.pick_t rfl rfl ?_
  refine RL.move rfl ?_
  refine RL.fn0 rfl rfl rfl en16 (fun w hw => (f_awake w)) rfl ?_
  rintro _ _ rfl
  refine RL.drop rfl (List.sublist_append_right _ _) ?_
  refine RL.pick_t rfl rfl ?_
  refine RL.assign rfl ?_
  refine RL.nil ?_
  refine X.ret ?_
  exact ret1 rfl rfl
 replace h1 : ¬ ((_ : Int) < _) := h1
 refine RL.move rfl ?_
 refine RL.move rfl ?_
 refine RL.move rfl ?_
 refine RL.len rfl sl32 rfl ?_
 refine RL.cmp_s rfl rfl rfl rfl (fun h2 => ?_) (fun h2 => ?_)
 ·replace h2 : (_ : Int) ≥ _ := h2
  refine RL.pick_f rfl rfl ?_
  refine RL.move rfl ?_
  refine RL.skip rfl ?_
  refine RL.skip rfl ?_
  refine RL.pick_t rfl rfl ?_
  refine RL.move rfl ?_
  refine RL.skip rfl ?_
  refine RL.skip rfl ?_
  refine RL.skip rfl ?_
  refine RL.skip rfl ?_
  refine RL.skip rfl ?_
  refine RL.skip rfl ?_
  refine RL.skip rfl ?_
  refine RL.skip rfl ?_
  refine RL.pick_t rfl rfl ?_
  refine RL.nil ?_
  refine X.cond_t rfl ?_
  refine X.seq ?_
  refine X.region rfl ?_
  refine RL.move rfl ?_
  refine RL.cmp_t rfl rfl rfl rfl (by show ((_ : Int) = _); rfl) ?_
  refine RL.move rfl ?_
  refine RL.fieldAddr rfl fd69_3 rfl ?_
  refine RL.loadO rfl sc67 rfl (show ([.int .u8 0, .int .u8 0, .int .u8 0, .int .u8 0, .int .u8 0, .int .u8 0, .int .u8 0, .int .u8 0, .int .u8 0, .int .u8 0, .int .u8 0, .int .u8 0, .int .u8 0, .int .u8 0, .int .u8 0, .int .u8 0, .slice none 0 0, .int .i64 0, .slice none 0 0] : List Value)[0 + 18]? = some (.slice none 0 0) from rfl) ?_
  refine RL.len rfl sl67 rfl ?_
  refine RL.cmp_t rfl rfl rfl rfl (by show ((_ : Int) = _); rfl) ?_
  refine RL.pick_t rfl rfl ?_
  refine RL.move rfl ?_
  refine RL.fn0 rfl rfl rfl en16 (fun w hw => (f_awake w)) rfl ?_
  rintro _ _ rfl
  refine RL.drop rfl (List.sublist_append_right _ _) ?_
  refine RL.pick_t rfl rfl ?_
  refine RL.assign rfl ?_
  refine RL.nil ?_
  refine X.ret ?_
  exact ret1 rfl rfl
 replace h2 : ¬ ((_ : Int) ≥ _) := h2
 refine RL.pick_f rfl rfl ?_
 refine RL.move rfl ?_
 refine RL.move rfl ?_
 refine RL.cmp_s rfl rfl rfl rfl (fun h3 => ?_) (fun h3 => ?_)
 ·replace h3 : (_ : Int) < _ := h3
  refine RL.pick_f rfl rfl ?_
  refine RL.move rfl ?_
  refine RL.skip rfl ?_
  refine RL.skip rfl ?_
  refine RL.skip rfl ?_
  refine RL.skip rfl ?_
  refine RL.skip rfl ?_
  refine RL.skip rfl ?_
  refine RL.skip rfl ?_
  refine RL.skip rfl ?_
  refine RL.pick_t rfl rfl ?_
  refine RL.nil ?_
  refine X.cond_t rfl ?_
  refine X.seq ?_
  refine X.region rfl ?_
  refine RL.move rfl ?_
  refine RL.cmp_t rfl rfl rfl rfl (by show ((_ : Int) = _); rfl) ?_
  refine RL.move rfl ?_
  refine RL.fieldAddr rfl fd69_3 rfl ?_
  refine RL.loadO rfl sc67 rfl (show ([.int .u8 0, .int .u8 0, .int .u8 0, .int .u8 0, .int .u8 0, .int .u8 0, .int .u8 0, .int .u8 0, .int .u8 0, .int .u8 0, .int .u8 0, .int .u8 0, .int .u8 0, .int .u8 0, .int .u8 0, .int .u8 0, .slice none 0 0, .int .i64 0, .slice none 0 0] : List Value)[0 + 18]? = some (.slice none 0 0) from rfl) ?_
  refine RL.len rfl sl67 rfl ?_
  refine RL.cmp_t rfl rfl rfl rfl (by show ((_ : Int) = _); rfl) ?_
  refine RL.pick_t rfl rfl ?_
  refine RL.move rfl ?_
  refine RL.fn0 rfl rfl rfl en16 (fun w hw => (f_awake w)) rfl ?_
  rintro _ _ rfl
  refine RL.drop rfl (List.sublist_append_right _ _) ?_
  refine RL.pick_t rfl rfl ?_
  refine RL.assign rfl ?_
  refine RL.nil ?_
  refine X.ret ?_
  exact ret1 rfl rfl
 replace h3 : ¬ ((_ : Int) < _) := h3
 obtain ⟨j, rfl⟩ : ∃ j : Nat, i = (j : Int) := ⟨i.toNat, by omega⟩
 obtain ⟨m, hm⟩ : ∃ m, ms[j]? = some m := ⟨_, List.getElem?_eq_getElem (by omega)⟩
 obtain ⟨Am, cm, hv0, hmr⟩ := hsta.get j m hm
 refine RL.pick_f rfl rfl ?_
 refine RL.move rfl ?_
 refine RL.move rfl ?_
 refine RL.move rfl ?_
 refine RL.move rfl ?_
 refine RL.indexAddr rfl sl32 rfl rfl (hA0 (by omega)) rfl (by omega) ?_
 refine RL.fieldAddr rfl fd30_0 rfl ?_
 refine RL.loadI rfl sc28 rfl (cells_one hvs hv0 0 _ rfl) (by simp) ?_
 refine RL.len rfl sl28 rfl ?_
 refine RL.cmp_s rfl rfl rfl rfl (fun h4 => ?_) (fun h4 => ?_)
 ·replace h4 : (_ : Int) ≥ _ := h4
  refine RL.pick_f rfl rfl ?_
  refine RL.nil ?_
  refine X.cond_t rfl ?_
  refine X.seq ?_
  refine X.region rfl ?_
  refine RL.move rfl ?_
  refine RL.cmp_t rfl rfl rfl rfl (by show ((_ : Int) = _); rfl) ?_
  refine RL.move rfl ?_
  refine RL.fieldAddr rfl fd69_3 rfl ?_
  refine RL.loadO rfl sc67 rfl (show ([.int .u8 0, .int .u8 0, .int .u8 0, .int .u8 0, .int .u8 0, .int .u8 0, .int .u8 0, .int .u8 0, .int .u8 0, .int .u8 0, .int .u8 0, .int .u8 0, .int .u8 0, .int .u8 0, .int .u8 0, .int .u8 0, .slice none 0 0, .int .i64 0, .slice none 0 0] : List Value)[0 + 18]? = some (.slice none 0 0) from rfl) ?_
  refine RL.len rfl sl67 rfl ?_
  refine RL.cmp_t rfl rfl rfl rfl (by show ((_ : Int) = _); rfl) ?_
  refine RL.pick_t rfl rfl ?_
  refine RL.move rfl ?_
  refine RL.fn0 rfl rfl rfl en16 (fun w hw => (f_awake w)) rfl ?_
  rintro _ _ rfl
  refine RL.drop rfl (List.sublist_append_right _ _) ?_
  refine RL.pick_t rfl rfl ?_
  refine RL.assign rfl ?_
  refine RL.nil ?_
  refine X.ret ?_
  exact ret1 rfl rfl
 replace h4 : ¬ ((_ : Int) ≥ _) := h4
 exfalso
 obtain ⟨g, rfl⟩ : ∃ g : Nat, k = (g : Int) := ⟨k.toNat, by omega⟩
 rw [getC_at hm, List.getElem?_eq_none_iff] at hgc
 omega
end Go.Proofs.Ytnebpklmbefmfaa

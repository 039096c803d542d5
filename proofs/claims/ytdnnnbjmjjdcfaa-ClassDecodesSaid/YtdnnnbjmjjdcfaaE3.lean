/- Awake. -/
import Derived.Test.YtdnnnbjmjjdcfaaE2
import Derived.Test.YtdnnnbjmjjdcfaaD4
set_option linter.unusedVariables false
set_option linter.unusedSimpArgs false
namespace Go.Proofs.Ytdnnnbjmjjdcfaa
open Go.RowKit
attribute [local irreducible] X RL W Ctr
set_option maxHeartbeats 1000000 in
set_option maxRecDepth 10000 in
theorem f_awake (w : World) :
    Ctr Try.prog 9 [] w [] fun v _ => v = .bool true := by
 refine Ctr.intro0 (n := 37) Try.func9 rfl Try.ntmps9 (Nat.le_of_ble_eq_true rfl) ?_
 refine X.seq ?_
 refine X.region rfl ?_
 refine RL.assign rfl ?_
 refine RL.nil ?_
 refine X.seq ?_
 refine X.region rfl ?_
 refine RL.fn (Lp := []) (Lr := []) rfl rfl rfl en28 (List.Perm.refl _) (fun w1 hw1 => f_small w1) rfl ?_
 rintro _ Lz ⟨A0, n0, rfl, L0, hm0, hs0⟩
 refine RL.drop (L' := L0) rfl (by rw [List.append_nil]; exact hs0) ?_
 refine RL.fn (Lp := []) (Lr := L0) rfl rfl rfl en14 (List.Perm.refl _) (fun w1 hw1 => f_encode smM sm_sz (by decide) A0 n0 w1 (hm0.reads hw1 (fun p hp => hp))) rfl ?_
 rintro _ Lz hz
 rw [if_pos sm_ok] at hz
 obtain ⟨A2, n2, cp2, Lr2, rfl, hr2, hs2, hn2⟩ := hz
 obtain ⟨hn2, hcp2⟩ := row_len hr2
 rw [gcells_len] at hn2
 refine RL.drop (L' := Lr2) rfl (hs2.trans (List.sublist_append_left _ _)) ?_
 refine RL.move rfl ?_
 refine RL.extract rfl rfl rfl ?_
 refine RL.extract rfl rfl rfl ?_
 refine RL.assign rfl ?_
 refine RL.assign rfl ?_
 refine RL.nil ?_
 refine X.seq ?_
 refine X.region rfl ?_
 refine RL.move rfl ?_
 subst hn2
 refine RL.fn (Lp := []) (Lr := Lr2) rfl rfl rfl en18 (List.Perm.refl _) (fun w1 hw1 => f_decode (encP smM) A2 cp2 w1 (row_rd hr2 hw1 (fun p hp => hp)) hcp2 (by rw [sm_len]; decide) sm_byt) rfl ?_
 rintro _ Lz (⟨m, Am, cm, Lm, hd, rfl, hmo, hsub⟩ | ⟨hd, rfl⟩)
 rotate_left
 · rw [sm_dec] at hd; cases hd
 obtain rfl : m = smM := by rw [sm_dec] at hd; exact (Option.some.inj hd).symm
 refine RL.drop (L' := Lm ++ Lr2) rfl (List.Sublist.append hsub (List.Sublist.refl _)) ?_
 refine RL.move rfl ?_
 refine RL.extract rfl rfl rfl ?_
 refine RL.extract rfl rfl rfl ?_
 refine RL.alloc rfl rfl zt24 ?_
 intro b3 hb3
 dsimp only at hb3
 refine RL.stA rfl rfl ag24.size rfl rfl rfl rfl (by simp [Value.oneCell']) ?_
 refine RL.assign rfl ?_
 refine RL.nil ?_
 refine X.seq ?_
 obtain ⟨bq, junk, rfl, rfl⟩ := hr2.open (by rw [sm_len]; decide)
 refine X.set [.val (.int .i64 0), .val (.bool true), .val (.bool true), .val (.int .i64 0), .val (.bool true), .val (.bool true), .val (.bool true), .val (.slice (some ⟨bq, 0, none⟩) (encP smM).length cp2), .val (.int .i64 (((encP smM).length : Nat) : Int)), .val (.bool true), .val (.bool true), .val (.bool true), .val (.slice (some ⟨bq, 0, none⟩) (encP smM).length cp2), .val (.pointer (some ⟨bq, 0 + 44 * 1, none⟩)), .val (.int .u8 11), .val (.bool true), .val (.bool true), .val (.bool true), .val (.agg #[.slice Am smM.length cm]), .any, .val (.bool true), .val (.bool true), .val (.bool true)] [[], [0], [0, 1], [0, 1, 2], [0, 1, 2, 3], [0, 1, 2, 3, 4], [0, 1, 2, 3, 4, 5], [0, 1, 2, 3, 4, 5, 6], [0, 1, 2, 3, 4, 5, 6, 7], [0, 1, 2, 3, 4, 5, 6, 7, 8], [0, 1, 2, 3, 4, 5, 6, 7, 8, 9], [0, 1, 2, 3, 4, 5, 6, 7, 8, 9, 10], [0, 1, 2, 3, 4, 5, 6, 7, 8, 9, 10, 11], [0, 1, 2, 3, 4, 5, 6, 7, 8, 9, 10, 11, 12], [0, 1, 2, 3, 4, 5, 6, 7, 8, 9, 10, 11, 12, 13], [0, 1, 2, 3, 4, 5, 6, 7, 8, 9, 10, 11, 12, 13, 14], [0, 1, 2, 3, 4, 5, 6, 7, 8, 9, 10, 11, 12, 13, 14, 15], [0, 1, 2, 3, 4, 5, 6, 7, 8, 9, 10, 11, 12, 13, 14, 15, 16], [0, 1, 2, 3, 4, 5, 6, 7, 8, 9, 10, 11, 12, 13, 14, 15, 16, 17], [0, 1, 2, 3, 4, 5, 6, 7, 8, 9, 10, 11, 12, 13, 14, 15, 16, 17], [0, 1, 2, 3, 4, 5, 6, 7, 8, 9, 10, 11, 12, 13, 14, 15, 16, 17, 18, 19], [0, 1, 2, 3, 4, 5, 6, 7, 8, 9, 10, 11, 12, 13, 14, 15, 16, 17, 18, 19, 20], [0, 1, 2, 3, 4, 5, 6, 7, 8, 9, 10, 11, 12, 13, 14, 15, 16, 17, 18, 19, 20, 21]] (fun D ρ L => (D 19 = false ∧ True ∧ Has ρ [] ∧ L.Perm (([(b3, cel 24 [.slice Am smM.length cm])]) ++ ((Lm) ++ ([(bq, cel 5 (gcells (encP smM) ++ junk))])))) ∨ (D 19 = true ∧ True ∧ ∃ A9 : Option Addr, ∃ n9 : Nat, ∃ L9 : List Ent, (ModO smM A9 n9 L9) ∧ Has ρ [(34, .agg #[.slice A9 smM.length n9])] ∧ L.Perm (([(b3, cel 24 [.slice Am smM.length cm])]) ++ ((Lm) ++ (([(bq, cel 5 (gcells (encP smM) ++ junk))]) ++ (L9)))))) rfl (by kernel_rfl) (by kernel_rfl) (by kernel_rfl) (by kernel_rfl) (fun D hD => .inl ⟨hD 19, trivial, trivial, (List.Perm.refl _)⟩) ⟨?_, ?_, ?_, ?_, ?_, ?_, ?_, ?_, ?_, ?_, ?_, ?_, ?_, ?_, ?_, ?_, ?_, ?_, ?_, ?_, ?_, ?_, ?_, trivial⟩ ?_
 ·intro ρ L D hS
  rcases hS.sp with ⟨e19, -, hρ, hL⟩ | ⟨e19, -, A9, n9, L9, hp0, hρ, hL⟩
  ·have u2 : ρ 2 = .int .i64 0 := hS.fix 2 (by decide)
   clear hS hρ
   obtain ⟨base, rfl⟩ := Has.base (ρ := ρ) (l := [(2, .int .i64 0)]) ⟨u2, trivial⟩
   clear u2
   refine RL.perm (L' := (([(b3, cel 24 [.slice Am smM.length cm])]) ++ ((Lm) ++ ([(bq, cel 5 (gcells (encP smM) ++ junk))])))) rfl hL.symm ?_
   clear hL
   refine RL.move rfl ?_
   refine RL.nil ?_
   exact ⟨rfl, ⟨_, rfl, rfl⟩, .inl ⟨e19, trivial, trivial, List.Perm.refl _⟩⟩
  ·exact hS.hi 19 rfl (by kernel_rfl) e19
 ·intro ρ L D hS
  rcases hS.sp with ⟨e19, -, hρ, hL⟩ | ⟨e19, -, A9, n9, L9, hp0, hρ, hL⟩
  ·have u15 : ρ 15 = .int .i64 0 := hS.dep ⟨0, Ground.data⟩ (by simp) rfl _ _ rfl rfl
   clear hS hρ
   obtain ⟨base, rfl⟩ := Has.base (ρ := ρ) (l := [(15, .int .i64 0)]) ⟨u15, trivial⟩
   clear u15
   refine RL.perm (L' := (([(b3, cel 24 [.slice Am smM.length cm])]) ++ ((Lm) ++ ([(bq, cel 5 (gcells (encP smM) ++ junk))])))) rfl hL.symm ?_
   clear hL
   refine RL.cmp_t rfl rfl rfl rfl (by show ((_ : Int) = _); rfl) ?_
   refine RL.nil ?_
   exact ⟨rfl, ⟨_, rfl, rfl⟩, .inl ⟨e19, trivial, trivial, List.Perm.refl _⟩⟩
  ·exact hS.hi 19 rfl (by kernel_rfl) e19
 ·intro ρ L D hS
  rcases hS.sp with ⟨e19, -, hρ, hL⟩ | ⟨e19, -, A9, n9, L9, hp0, hρ, hL⟩
  ·have u16 : ρ 16 = .bool true := hS.dep ⟨1, Ground.data⟩ (by simp) rfl _ _ rfl rfl
   clear hS hρ
   obtain ⟨base, rfl⟩ := Has.base (ρ := ρ) (l := [(16, .bool true)]) ⟨u16, trivial⟩
   clear u16
   refine RL.perm (L' := (([(b3, cel 24 [.slice Am smM.length cm])]) ++ ((Lm) ++ ([(bq, cel 5 (gcells (encP smM) ++ junk))])))) rfl hL.symm ?_
   clear hL
   refine RL.move rfl ?_
   refine RL.nil ?_
   exact ⟨rfl, ⟨_, rfl, rfl⟩, .inl ⟨e19, trivial, trivial, List.Perm.refl _⟩⟩
  ·exact hS.hi 19 rfl (by kernel_rfl) e19
 ·intro ρ L D hS
  rcases hS.sp with ⟨e19, -, hρ, hL⟩ | ⟨e19, -, A9, n9, L9, hp0, hρ, hL⟩
  ·have u4 : ρ 4 = .int .i64 0 := hS.fix 4 (by decide)
   have u17 : ρ 17 = .bool true := hS.dep ⟨2, Ground.guard⟩ (by simp) rfl _ _ rfl rfl
   clear hS hρ
   obtain ⟨base, rfl⟩ := Has.base (ρ := ρ) (l := [(4, .int .i64 0), (17, .bool true)]) ⟨u4, u17, trivial⟩
   clear u4 u17
   refine RL.perm (L' := (([(b3, cel 24 [.slice Am smM.length cm])]) ++ ((Lm) ++ ([(bq, cel 5 (gcells (encP smM) ++ junk))])))) rfl hL.symm ?_
   clear hL
   refine RL.move rfl ?_
   refine RL.nil ?_
   exact ⟨rfl, ⟨_, rfl, rfl⟩, .inl ⟨e19, trivial, trivial, List.Perm.refl _⟩⟩
  ·exact hS.hi 19 rfl (by kernel_rfl) e19
 ·intro ρ L D hS
  rcases hS.sp with ⟨e19, -, hρ, hL⟩ | ⟨e19, -, A9, n9, L9, hp0, hρ, hL⟩
  ·have u17 : ρ 17 = .bool true := hS.dep ⟨2, Ground.guard⟩ (by simp) rfl _ _ rfl rfl
   have u18 : ρ 18 = .int .i64 0 := hS.dep ⟨3, Ground.data⟩ (by simp) rfl _ _ rfl rfl
   clear hS hρ
   obtain ⟨base, rfl⟩ := Has.base (ρ := ρ) (l := [(17, .bool true), (18, .int .i64 0)]) ⟨u17, u18, trivial⟩
   clear u17 u18
   refine RL.perm (L' := (([(b3, cel 24 [.slice Am smM.length cm])]) ++ ((Lm) ++ ([(bq, cel 5 (gcells (encP smM) ++ junk))])))) rfl hL.symm ?_
   clear hL
   refine RL.cmp_t rfl rfl rfl rfl (by show ((_ : Int) = _); rfl) ?_
   refine RL.nil ?_
   exact ⟨rfl, ⟨_, rfl, rfl⟩, .inl ⟨e19, trivial, trivial, List.Perm.refl _⟩⟩
  ·exact hS.hi 19 rfl (by kernel_rfl) e19
 ·intro ρ L D hS
  rcases hS.sp with ⟨e19, -, hρ, hL⟩ | ⟨e19, -, A9, n9, L9, hp0, hρ, hL⟩
  ·have u17 : ρ 17 = .bool true := hS.dep ⟨2, Ground.data⟩ (by simp) rfl _ _ rfl rfl
   have u19 : ρ 19 = .bool true := hS.dep ⟨4, Ground.data⟩ (by simp) rfl _ _ rfl rfl
   clear hS hρ
   obtain ⟨base, rfl⟩ := Has.base (ρ := ρ) (l := [(17, .bool true), (19, .bool true)]) ⟨u17, u19, trivial⟩
   clear u17 u19
   refine RL.perm (L' := (([(b3, cel 24 [.slice Am smM.length cm])]) ++ ((Lm) ++ ([(bq, cel 5 (gcells (encP smM) ++ junk))])))) rfl hL.symm ?_
   clear hL
   refine RL.pick_t rfl rfl ?_
   refine RL.nil ?_
   exact ⟨rfl, ⟨_, rfl, rfl⟩, .inl ⟨e19, trivial, trivial, List.Perm.refl _⟩⟩
  ·exact hS.hi 19 rfl (by kernel_rfl) e19
 ·intro ρ L D hS
  rcases hS.sp with ⟨e19, -, hρ, hL⟩ | ⟨e19, -, A9, n9, L9, hp0, hρ, hL⟩
  ·have u20 : ρ 20 = .bool true := hS.dep ⟨5, Ground.data⟩ (by simp) rfl _ _ rfl rfl
   clear hS hρ
   obtain ⟨base, rfl⟩ := Has.base (ρ := ρ) (l := [(20, .bool true)]) ⟨u20, trivial⟩
   clear u20
   refine RL.perm (L' := (([(b3, cel 24 [.slice Am smM.length cm])]) ++ ((Lm) ++ ([(bq, cel 5 (gcells (encP smM) ++ junk))])))) rfl hL.symm ?_
   clear hL
   refine RL.move rfl ?_
   refine RL.nil ?_
   exact ⟨rfl, ⟨_, rfl, rfl⟩, .inl ⟨e19, trivial, trivial, List.Perm.refl _⟩⟩
  ·exact hS.hi 19 rfl (by kernel_rfl) e19
 ·intro ρ L D hS
  rcases hS.sp with ⟨e19, -, hρ, hL⟩ | ⟨e19, -, A9, n9, L9, hp0, hρ, hL⟩
  ·have u1 : ρ 1 = .slice (some ⟨bq, 0, none⟩) (encP smM).length cp2 := hS.fix 1 (by decide)
   have u21 : ρ 21 = .bool true := hS.dep ⟨6, Ground.guard⟩ (by simp) rfl _ _ rfl rfl
   clear hS hρ
   obtain ⟨base, rfl⟩ := Has.base (ρ := ρ) (l := [(1, .slice (some ⟨bq, 0, none⟩) (encP smM).length cp2), (21, .bool true)]) ⟨u1, u21, trivial⟩
   clear u1 u21
   refine RL.perm (L' := (([(b3, cel 24 [.slice Am smM.length cm])]) ++ ((Lm) ++ ([(bq, cel 5 (gcells (encP smM) ++ junk))])))) rfl hL.symm ?_
   clear hL
   refine RL.move rfl ?_
   refine RL.nil ?_
   exact ⟨rfl, ⟨_, rfl, rfl⟩, .inl ⟨e19, trivial, trivial, List.Perm.refl _⟩⟩
  ·exact hS.hi 19 rfl (by kernel_rfl) e19
 ·intro ρ L D hS
  rcases hS.sp with ⟨e19, -, hρ, hL⟩ | ⟨e19, -, A9, n9, L9, hp0, hρ, hL⟩
  ·have u21 : ρ 21 = .bool true := hS.dep ⟨6, Ground.guard⟩ (by simp) rfl _ _ rfl rfl
   have u22 : ρ 22 = .slice (some ⟨bq, 0, none⟩) (encP smM).length cp2 := hS.dep ⟨7, Ground.data⟩ (by simp) rfl _ _ rfl rfl
   clear hS hρ
   obtain ⟨base, rfl⟩ := Has.base (ρ := ρ) (l := [(21, .bool true), (22, .slice (some ⟨bq, 0, none⟩) (encP smM).length cp2)]) ⟨u21, u22, trivial⟩
   clear u21 u22
   refine RL.perm (L' := (([(b3, cel 24 [.slice Am smM.length cm])]) ++ ((Lm) ++ ([(bq, cel 5 (gcells (encP smM) ++ junk))])))) rfl hL.symm ?_
   clear hL
   refine RL.len rfl sl40 rfl ?_
   refine RL.nil ?_
   exact ⟨rfl, ⟨_, rfl, rfl⟩, .inl ⟨e19, trivial, trivial, List.Perm.refl _⟩⟩
  ·exact hS.hi 19 rfl (by kernel_rfl) e19
 ·intro ρ L D hS
  rcases hS.sp with ⟨e19, -, hρ, hL⟩ | ⟨e19, -, A9, n9, L9, hp0, hρ, hL⟩
  ·have u21 : ρ 21 = .bool true := hS.dep ⟨6, Ground.guard⟩ (by simp) rfl _ _ rfl rfl
   have u23 : ρ 23 = .int .i64 (((encP smM).length : Nat) : Int) := hS.dep ⟨8, Ground.data⟩ (by simp) rfl _ _ rfl rfl
   clear hS hρ
   obtain ⟨base, rfl⟩ := Has.base (ρ := ρ) (l := [(21, .bool true), (23, .int .i64 (((encP smM).length : Nat) : Int))]) ⟨u21, u23, trivial⟩
   clear u21 u23
   refine RL.perm (L' := (([(b3, cel 24 [.slice Am smM.length cm])]) ++ ((Lm) ++ ([(bq, cel 5 (gcells (encP smM) ++ junk))])))) rfl hL.symm ?_
   clear hL
   refine RL.cmp_t rfl rfl rfl rfl (by show ((_ : Int) = _); rw [sm_len]; rfl) ?_
   refine RL.nil ?_
   exact ⟨rfl, ⟨_, rfl, rfl⟩, .inl ⟨e19, trivial, trivial, List.Perm.refl _⟩⟩
  ·exact hS.hi 19 rfl (by kernel_rfl) e19
 ·intro ρ L D hS
  rcases hS.sp with ⟨e19, -, hρ, hL⟩ | ⟨e19, -, A9, n9, L9, hp0, hρ, hL⟩
  ·have u21 : ρ 21 = .bool true := hS.dep ⟨6, Ground.data⟩ (by simp) rfl _ _ rfl rfl
   have u24 : ρ 24 = .bool true := hS.dep ⟨9, Ground.data⟩ (by simp) rfl _ _ rfl rfl
   clear hS hρ
   obtain ⟨base, rfl⟩ := Has.base (ρ := ρ) (l := [(21, .bool true), (24, .bool true)]) ⟨u21, u24, trivial⟩
   clear u21 u24
   refine RL.perm (L' := (([(b3, cel 24 [.slice Am smM.length cm])]) ++ ((Lm) ++ ([(bq, cel 5 (gcells (encP smM) ++ junk))])))) rfl hL.symm ?_
   clear hL
   refine RL.pick_t rfl rfl ?_
   refine RL.nil ?_
   exact ⟨rfl, ⟨_, rfl, rfl⟩, .inl ⟨e19, trivial, trivial, List.Perm.refl _⟩⟩
  ·exact hS.hi 19 rfl (by kernel_rfl) e19
 ·intro ρ L D hS
  rcases hS.sp with ⟨e19, -, hρ, hL⟩ | ⟨e19, -, A9, n9, L9, hp0, hρ, hL⟩
  ·have u25 : ρ 25 = .bool true := hS.dep ⟨10, Ground.data⟩ (by simp) rfl _ _ rfl rfl
   clear hS hρ
   obtain ⟨base, rfl⟩ := Has.base (ρ := ρ) (l := [(25, .bool true)]) ⟨u25, trivial⟩
   clear u25
   refine RL.perm (L' := (([(b3, cel 24 [.slice Am smM.length cm])]) ++ ((Lm) ++ ([(bq, cel 5 (gcells (encP smM) ++ junk))])))) rfl hL.symm ?_
   clear hL
   refine RL.move rfl ?_
   refine RL.nil ?_
   exact ⟨rfl, ⟨_, rfl, rfl⟩, .inl ⟨e19, trivial, trivial, List.Perm.refl _⟩⟩
  ·exact hS.hi 19 rfl (by kernel_rfl) e19
 ·intro ρ L D hS
  rcases hS.sp with ⟨e19, -, hρ, hL⟩ | ⟨e19, -, A9, n9, L9, hp0, hρ, hL⟩
  ·have u1 : ρ 1 = .slice (some ⟨bq, 0, none⟩) (encP smM).length cp2 := hS.fix 1 (by decide)
   have u26 : ρ 26 = .bool true := hS.dep ⟨11, Ground.guard⟩ (by simp) rfl _ _ rfl rfl
   clear hS hρ
   obtain ⟨base, rfl⟩ := Has.base (ρ := ρ) (l := [(1, .slice (some ⟨bq, 0, none⟩) (encP smM).length cp2), (26, .bool true)]) ⟨u1, u26, trivial⟩
   clear u1 u26
   refine RL.perm (L' := (([(b3, cel 24 [.slice Am smM.length cm])]) ++ ((Lm) ++ ([(bq, cel 5 (gcells (encP smM) ++ junk))])))) rfl hL.symm ?_
   clear hL
   refine RL.move rfl ?_
   refine RL.nil ?_
   exact ⟨rfl, ⟨_, rfl, rfl⟩, .inl ⟨e19, trivial, trivial, List.Perm.refl _⟩⟩
  ·exact hS.hi 19 rfl (by kernel_rfl) e19
 ·intro ρ L D hS
  rcases hS.sp with ⟨e19, -, hρ, hL⟩ | ⟨e19, -, A9, n9, L9, hp0, hρ, hL⟩
  ·have u26 : ρ 26 = .bool true := hS.dep ⟨11, Ground.guard⟩ (by simp) rfl _ _ rfl rfl
   have u27 : ρ 27 = .slice (some ⟨bq, 0, none⟩) (encP smM).length cp2 := hS.dep ⟨12, Ground.data⟩ (by simp) rfl _ _ rfl rfl
   clear hS hρ
   obtain ⟨base, rfl⟩ := Has.base (ρ := ρ) (l := [(26, .bool true), (27, .slice (some ⟨bq, 0, none⟩) (encP smM).length cp2)]) ⟨u26, u27, trivial⟩
   clear u26 u27
   refine RL.perm (L' := (([(b3, cel 24 [.slice Am smM.length cm])]) ++ ((Lm) ++ ([(bq, cel 5 (gcells (encP smM) ++ junk))])))) rfl hL.symm ?_
   clear hL
   refine RL.indexAddr rfl sl40 rfl rfl (j := 44) rfl rfl (by rw [sm_len]; decide) ?_
   refine RL.nil ?_
   exact ⟨rfl, ⟨_, rfl, rfl⟩, .inl ⟨e19, trivial, trivial, List.Perm.refl _⟩⟩
  ·exact hS.hi 19 rfl (by kernel_rfl) e19
 ·intro ρ L D hS
  rcases hS.sp with ⟨e19, -, hρ, hL⟩ | ⟨e19, -, A9, n9, L9, hp0, hρ, hL⟩
  ·have u26 : ρ 26 = .bool true := hS.dep ⟨11, Ground.guard⟩ (by simp) rfl _ _ rfl rfl
   have u28 : ρ 28 = .pointer (some ⟨bq, 0 + 44 * 1, none⟩) := hS.dep ⟨13, Ground.data⟩ (by simp) rfl _ _ rfl rfl
   clear hS hρ
   obtain ⟨base, rfl⟩ := Has.base (ρ := ρ) (l := [(26, .bool true), (28, .pointer (some ⟨bq, 0 + 44 * 1, none⟩))]) ⟨u26, u28, trivial⟩
   clear u26 u28
   refine RL.perm (L' := (([(b3, cel 24 [.slice Am smM.length cm])]) ++ ((Lm) ++ ([(bq, cel 5 (gcells (encP smM) ++ junk))])))) rfl hL.symm ?_
   clear hL
   refine RL.loadO rfl sc5 rfl (by show (gcells (encP smM) ++ junk)[44]? = _; rw [List.getElem?_append_left (by rw [gcells_len, sm_len]; decide)]; simp only [gcells, List.getElem?_map, sm_at]; rfl) ?_
   refine RL.nil ?_
   exact ⟨rfl, ⟨_, rfl, rfl⟩, .inl ⟨e19, trivial, trivial, List.Perm.refl _⟩⟩
  ·exact hS.hi 19 rfl (by kernel_rfl) e19
 ·intro ρ L D hS
  rcases hS.sp with ⟨e19, -, hρ, hL⟩ | ⟨e19, -, A9, n9, L9, hp0, hρ, hL⟩
  ·have u26 : ρ 26 = .bool true := hS.dep ⟨11, Ground.guard⟩ (by simp) rfl _ _ rfl rfl
   have u29 : ρ 29 = .int .u8 11 := hS.dep ⟨14, Ground.data⟩ (by simp) rfl _ _ rfl rfl
   clear hS hρ
   obtain ⟨base, rfl⟩ := Has.base (ρ := ρ) (l := [(26, .bool true), (29, .int .u8 11)]) ⟨u26, u29, trivial⟩
   clear u26 u29
   refine RL.perm (L' := (([(b3, cel 24 [.slice Am smM.length cm])]) ++ ((Lm) ++ ([(bq, cel 5 (gcells (encP smM) ++ junk))])))) rfl hL.symm ?_
   clear hL
   refine RL.cmp_t rfl rfl rfl rfl (by show ((_ : Int) = _); rfl) ?_
   refine RL.nil ?_
   exact ⟨rfl, ⟨_, rfl, rfl⟩, .inl ⟨e19, trivial, trivial, List.Perm.refl _⟩⟩
  ·exact hS.hi 19 rfl (by kernel_rfl) e19
 ·intro ρ L D hS
  rcases hS.sp with ⟨e19, -, hρ, hL⟩ | ⟨e19, -, A9, n9, L9, hp0, hρ, hL⟩
  ·have u26 : ρ 26 = .bool true := hS.dep ⟨11, Ground.data⟩ (by simp) rfl _ _ rfl rfl
   have u30 : ρ 30 = .bool true := hS.dep ⟨15, Ground.data⟩ (by simp) rfl _ _ rfl rfl
   clear hS hρ
   obtain ⟨base, rfl⟩ := Has.base (ρ := ρ) (l := [(26, .bool true), (30, .bool true)]) ⟨u26, u30, trivial⟩
   clear u26 u30
   refine RL.perm (L' := (([(b3, cel 24 [.slice Am smM.length cm])]) ++ ((Lm) ++ ([(bq, cel 5 (gcells (encP smM) ++ junk))])))) rfl hL.symm ?_
   clear hL
   refine RL.pick_t rfl rfl ?_
   refine RL.nil ?_
   exact ⟨rfl, ⟨_, rfl, rfl⟩, .inl ⟨e19, trivial, trivial, List.Perm.refl _⟩⟩
  ·exact hS.hi 19 rfl (by kernel_rfl) e19
 ·intro ρ L D hS
  rcases hS.sp with ⟨e19, -, hρ, hL⟩ | ⟨e19, -, A9, n9, L9, hp0, hρ, hL⟩
  ·have u31 : ρ 31 = .bool true := hS.dep ⟨16, Ground.data⟩ (by simp) rfl _ _ rfl rfl
   clear hS hρ
   obtain ⟨base, rfl⟩ := Has.base (ρ := ρ) (l := [(31, .bool true)]) ⟨u31, trivial⟩
   clear u31
   refine RL.perm (L' := (([(b3, cel 24 [.slice Am smM.length cm])]) ++ ((Lm) ++ ([(bq, cel 5 (gcells (encP smM) ++ junk))])))) rfl hL.symm ?_
   clear hL
   refine RL.move rfl ?_
   refine RL.nil ?_
   exact ⟨rfl, ⟨_, rfl, rfl⟩, .inl ⟨e19, trivial, trivial, List.Perm.refl _⟩⟩
  ·exact hS.hi 19 rfl (by kernel_rfl) e19
 ·intro ρ L D hS
  rcases hS.sp with ⟨e19, -, hρ, hL⟩ | ⟨e19, -, A9, n9, L9, hp0, hρ, hL⟩
  ·have u3 : ρ 3 = .pointer (some ⟨b3, 0, none⟩) := hS.fix 3 (by decide)
   have u32 : ρ 32 = .bool true := hS.dep ⟨17, Ground.guard⟩ (by simp) rfl _ _ rfl rfl
   clear hS hρ
   obtain ⟨base, rfl⟩ := Has.base (ρ := ρ) (l := [(3, .pointer (some ⟨b3, 0, none⟩)), (32, .bool true)]) ⟨u3, u32, trivial⟩
   clear u3 u32
   refine RL.perm (L' := (([(b3, cel 24 [.slice Am smM.length cm])]) ++ ((Lm) ++ ([(bq, cel 5 (gcells (encP smM) ++ junk))])))) rfl hL.symm ?_
   clear hL
   refine RL.loadOA rfl ag24 rfl (show List.take 1 (List.drop 0 [.slice Am smM.length cm]) = [.slice Am smM.length cm] from rfl) rfl ?_
   refine RL.nil ?_
   exact ⟨rfl, ⟨_, rfl, rfl⟩, .inl ⟨e19, trivial, trivial, List.Perm.refl _⟩⟩
  ·have u3 : ρ 3 = .pointer (some ⟨b3, 0, none⟩) := hS.fix 3 (by decide)
   have u32 : ρ 32 = .bool true := hS.dep ⟨17, Ground.guard⟩ (by simp) rfl _ _ rfl rfl
   have u34 : ρ 34 = .agg #[.slice A9 smM.length n9] := hρ.1
   clear hS hρ
   obtain ⟨base, rfl⟩ := Has.base (ρ := ρ) (l := [(3, .pointer (some ⟨b3, 0, none⟩)), (32, .bool true), (34, .agg #[.slice A9 smM.length n9])]) ⟨u3, u32, u34, trivial⟩
   clear u3 u32 u34
   refine RL.perm (L' := (([(b3, cel 24 [.slice Am smM.length cm])]) ++ ((Lm) ++ (([(bq, cel 5 (gcells (encP smM) ++ junk))]) ++ (L9))))) rfl hL.symm ?_
   clear hL
   refine RL.loadOA rfl ag24 rfl (show List.take 1 (List.drop 0 [.slice Am smM.length cm]) = [.slice Am smM.length cm] from rfl) rfl ?_
   refine RL.nil ?_
   exact ⟨rfl, ⟨_, rfl, rfl⟩, .inr (⟨e19, trivial, A9, n9, L9, hp0, ⟨rfl, trivial⟩, List.Perm.refl _⟩)⟩
 ·intro ρ L D hS
  rcases hS.sp with ⟨e19, -, hρ, hL⟩ | ⟨e19, -, A9, n9, L9, hp0, hρ, hL⟩
  ·have u32 : ρ 32 = .bool true := hS.dep ⟨17, Ground.chain⟩ (by simp) rfl _ _ rfl rfl
   clear hS hρ
   obtain ⟨base, rfl⟩ := Has.base (ρ := ρ) (l := [(32, .bool true)]) ⟨u32, trivial⟩
   clear u32
   refine RL.perm (L' := (([(b3, cel 24 [.slice Am smM.length cm])]) ++ ((Lm) ++ ([(bq, cel 5 (gcells (encP smM) ++ junk))])))) rfl hL.symm ?_
   clear hL
   refine RL.fn0 rfl rfl rfl en28 (fun w1 hw1 => f_small w1) rfl ?_
   rintro _ Lz ⟨A9, n9, rfl, L9, hm9, hs9⟩
   refine RL.drop (L' := L9 ++ ([(b3, cel 24 [.slice Am smM.length cm])] ++ (Lm ++ [(bq, cel 5 (gcells (encP smM) ++ junk))]))) rfl (List.Sublist.append hs9 (List.Sublist.refl _)) ?_
   show RL _ _ _ _ _ (updO _ _ (.agg #[.slice A9 smM.length n9])) _ _
   refine RL.nil ?_
   exact ⟨rfl, ⟨_, rfl, trivial⟩, .inr (⟨rfl, trivial, A9, n9, L9, hm9, ⟨rfl, trivial⟩, (by classical exact List.perm_iff_count.2 (fun z => by simp only [List.count_append, List.count_cons, List.count_nil, List.cons_append, List.nil_append, List.append_nil, List.set_cons_zero, List.set_cons_succ] <;> omega))⟩)⟩
  ·exact hS.me e19
 ·intro ρ L D hS
  rcases hS.sp with ⟨e19, -, hρ, hL⟩ | ⟨e19, -, A9, n9, L9, hp0, hρ, hL⟩
  ·exact hS.lo 19 (by kernel_rfl) e19
  ·have u32 : ρ 32 = .bool true := hS.dep ⟨17, Ground.guard⟩ (by simp) rfl _ _ rfl rfl
   have u33 : ρ 33 = .agg #[.slice Am smM.length cm] := hS.dep ⟨18, Ground.data⟩ (by simp) rfl _ _ rfl rfl
   have u34 : ρ 34 = .agg #[.slice A9 smM.length n9] := hρ.1
   clear hS hρ
   obtain ⟨base, rfl⟩ := Has.base (ρ := ρ) (l := [(32, .bool true), (33, .agg #[.slice Am smM.length cm]), (34, .agg #[.slice A9 smM.length n9])]) ⟨u32, u33, u34, trivial⟩
   clear u32 u33 u34
   refine RL.perm (L' := (([(b3, cel 24 [.slice Am smM.length cm])]) ++ ((Lm) ++ (([(bq, cel 5 (gcells (encP smM) ++ junk))]) ++ (L9))))) rfl hL.symm ?_
   clear hL
   refine RL.fnQ (v := .bool true) rfl rfl en20 (fun w1 hw1 => f_same smM sm_sz (by decide) Am A9 cm n9 w1 (hmo.reads hw1 (fun p hp => by simp [hp])) (hp0.reads hw1 (fun p hp => by simp [hp]))) rfl ?_
   refine RL.nil ?_
   exact ⟨rfl, ⟨_, rfl, rfl⟩, .inr (⟨e19, trivial, A9, n9, L9, hp0, ⟨rfl, trivial⟩, List.Perm.refl _⟩)⟩
 ·intro ρ L D hS
  rcases hS.sp with ⟨e19, -, hρ, hL⟩ | ⟨e19, -, A9, n9, L9, hp0, hρ, hL⟩
  ·exact hS.lo 19 (by kernel_rfl) e19
  ·have u32 : ρ 32 = .bool true := hS.dep ⟨17, Ground.data⟩ (by simp) rfl _ _ rfl rfl
   have u34 : ρ 34 = .agg #[.slice A9 smM.length n9] := hρ.1
   have u35 : ρ 35 = .bool true := hS.dep ⟨20, Ground.data⟩ (by simp) rfl _ _ rfl rfl
   clear hS hρ
   obtain ⟨base, rfl⟩ := Has.base (ρ := ρ) (l := [(32, .bool true), (34, .agg #[.slice A9 smM.length n9]), (35, .bool true)]) ⟨u32, u34, u35, trivial⟩
   clear u32 u34 u35
   refine RL.perm (L' := (([(b3, cel 24 [.slice Am smM.length cm])]) ++ ((Lm) ++ (([(bq, cel 5 (gcells (encP smM) ++ junk))]) ++ (L9))))) rfl hL.symm ?_
   clear hL
   refine RL.pick_t rfl rfl ?_
   refine RL.nil ?_
   exact ⟨rfl, ⟨_, rfl, rfl⟩, .inr (⟨e19, trivial, A9, n9, L9, hp0, ⟨rfl, trivial⟩, List.Perm.refl _⟩)⟩
 ·intro ρ L D hS
  rcases hS.sp with ⟨e19, -, hρ, hL⟩ | ⟨e19, -, A9, n9, L9, hp0, hρ, hL⟩
  ·exact hS.lo 19 (by kernel_rfl) e19
  ·have u34 : ρ 34 = .agg #[.slice A9 smM.length n9] := hρ.1
   have u36 : ρ 36 = .bool true := hS.dep ⟨21, Ground.data⟩ (by simp) rfl _ _ rfl rfl
   clear hS hρ
   obtain ⟨base, rfl⟩ := Has.base (ρ := ρ) (l := [(34, .agg #[.slice A9 smM.length n9]), (36, .bool true)]) ⟨u34, u36, trivial⟩
   clear u34 u36
   refine RL.perm (L' := (([(b3, cel 24 [.slice Am smM.length cm])]) ++ ((Lm) ++ (([(bq, cel 5 (gcells (encP smM) ++ junk))]) ++ (L9))))) rfl hL.symm ?_
   clear hL
   refine RL.assign rfl ?_
   refine RL.nil ?_
   exact ⟨rfl, ⟨_, rfl, rfl⟩, .inr (⟨e19, trivial, A9, n9, L9, hp0, ⟨rfl, trivial⟩, List.Perm.refl _⟩)⟩
 ·intro ρ L D hD hT hfix hsp
  rcases hsp with ⟨e19, -, hρ, hL⟩ | ⟨e19, -, A9, n9, L9, hp0, hρ, hL⟩
  ·exact done_no hD 19 rfl e19
  ·have u0 : ρ 0 = .bool true := hT 22 _ _ rfl rfl
   have u34 : ρ 34 = .agg #[.slice A9 smM.length n9] := hρ.1
   clear hT hfix hD hρ
   obtain ⟨base, rfl⟩ := Has.base (ρ := ρ) (l := [(0, .bool true), (34, .agg #[.slice A9 smM.length n9])]) ⟨u0, u34, trivial⟩
   clear u0 u34
   refine ⟨_, hL.symm, (([(b3, cel 24 [.slice Am smM.length cm])]) ++ ((Lm) ++ (([(bq, cel 5 (gcells (encP smM) ++ junk))]) ++ (L9)))), List.Sublist.append (List.Sublist.refl _) (List.Sublist.append (List.Sublist.refl _) (List.Sublist.append (List.Sublist.refl _) (List.Sublist.refl _))), ?_⟩
   refine X.ret ?_
   exact ret1 rfl rfl
end Go.Proofs.Ytdnnnbjmjjdcfaa

/- The law: what is needed stays. -/
import Derived.Test.YtnebpklmbefmfaaS1
import Derived.Test.YtnebpklmbefmfaaSafe
set_option linter.unusedVariables false
set_option linter.unusedSimpArgs false
namespace Go.Proofs.Ytnebpklmbefmfaa
open Go.RowKit
attribute [local irreducible] X RL W Ctr
set_option maxHeartbeats 1000000 in
set_option maxRecDepth 10000 in
theorem w_safe (d0 : Int) (l : List Ac) (A0 : Option Addr) (c0 : Nat) (w : World) (hrd : Rd w A0 (ecells Ac.cells l)) :
    Ctr Try.prog 3 [.int .i64 d0, .slice A0 l.length c0] w [] fun v _ => v = .bool true := by
 obtain ⟨bb, oo, hA0, hc⟩ := hrd
 have hA : 0 < l.length → A0 = some ⟨bb, oo, none⟩ := fun h => hA0 (by rw [ecells_len Ac.len]; omega)
 refine Ctr.intro0 (n := 149) Try.func3 rfl Try.ntmps3 (Nat.le_of_ble_eq_true rfl) ?_
 refine X.seq ?_
 refine X.region rfl ?_
 refine RL.assign rfl ?_
 refine RL.nil ?_
 refine X.seq ?_
 refine X.region rfl ?_
 refine RL.move rfl ?_
 obtain ⟨d, ed, hd⟩ := pick_nat (d0) (n := 9) (by decide)
 refine RL.fn0 rfl rfl rfl en9 (fun w hw => ((f_pick (d0) 9 w (by decide) (by decide)).mono fun v L h => (by rw [h]; exact congrArg (Value.int .i64) ed : v = .int .i64 ((d : Nat) : Int)))) rfl ?_
 rintro _ _ rfl
 refine RL.drop rfl (List.sublist_append_right _ _) ?_
 refine RL.assign rfl ?_
 refine RL.nil ?_
 refine X.seq ?_
 refine X.region rfl ?_
 refine RL.fn0 rfl rfl rfl en11 (fun w hw => (f_one 1 w)) rfl ?_
 rintro _ _ ⟨A1, n1, rfl, L1, hm1, hs1⟩
 refine RL.drop (L' := L1) rfl (hs1.trans (List.sublist_append_left _ _)) ?_
 refine RL.fn0 rfl rfl rfl en11 (fun w hw => (f_one 2 w)) rfl ?_
 rintro _ _ ⟨A2, n2, rfl, L2, hm2, hs2⟩
 refine RL.drop (L' := L2 ++ L1) rfl (hs2.append (List.Sublist.refl _)) ?_
 refine RL.bsC (vs := [(0, .agg #[.slice A1 (oneM 1).length n1]), (1, .agg #[.slice A2 (oneM 2).length n2])]) (cells := [.slice A1 (oneM 1).length n1, .slice A2 (oneM 2).length n2]) rfl rfl sl32 (fun w => let ⟨v, a, b⟩ := zt30; ⟨v, a, b w⟩) rfl rfl rfl (by kernel_rfl) ?_
 intro bm hbm
 refine RL.move rfl ?_
 refine RL.fn (Lp := []) (Lr := (bm, cel 30 [.slice A1 (oneM 1).length n1, .slice A2 (oneM 2).length n2]) :: (L2 ++ L1)) rfl rfl rfl en10 (List.Perm.refl _) (fun w1 hw1 => f_new [oneM 1, oneM 2] two_sz (some ⟨bm, 0, none⟩) 2 (d : Nat) (by decide) w1 (ModsO.rd hw1 (ModsO.snoc (ModsO.snoc ModsO.nil hm1) hm2) (Row.blk bm 2 2 [.slice A1 (oneM 1).length n1, .slice A2 (oneM 2).length n2] [] rfl rfl (Nat.le_refl _)) (fun p hp => by simp only [List.nil_append, List.mem_append, List.mem_cons] at hp ⊢; rcases hp with hp | hp <;> simp [hp]) (fun p hp => by simp at hp; subst hp; simp)) two_b) rfl ?_
 rintro _ Lz (⟨hne, _⟩ | ⟨_, rb, A, cp, Lr, xs, Lst, rfl, hrow, hst, hsub⟩)
 · exact absurd (two_new d (by omega)) hne
 have hxl : xs.length = 2 := hst.len
 have hx5 : xs.length ≤ 1000 := by omega
 refine RL.drop (L' := RegG rb A cp Lr (d : Nat) xs [mv0, mv0] ++ Lst) rfl (hsub.trans (List.sublist_append_left _ _)) ?_
 refine RL.move rfl ?_
 refine RL.extract rfl rfl rfl ?_
 refine RL.extract rfl rfl rfl ?_
 refine RL.assign rfl ?_
 refine RL.assign rfl ?_
 refine RL.nil ?_
 refine X.seq ?_
 refine X.seq ?_
 refine X.region rfl ?_
 refine RL.move rfl ?_
 refine RL.cmp_f rfl rfl rfl rfl (by show ¬ ((_ : Int) ≠ _); exact fun h => h rfl) ?_
 refine RL.nil ?_
 refine X.cond_f rfl ?_
 refine X.skip ?_
 refine X.seq ?_
 refine X.region rfl ?_
 refine RL.alloc rfl rfl zt34 ?_
 intro bn hbn
 dsimp only at hbn
 refine RL.nil ?_
 refine X.seq ?_
 refine X.seq ?_
 refine X.region rfl ?_
 refine RL.perm (L' := RegG rb A cp Lr (((d : Nat) : Int)) xs ([mv0, mv0]) ++ ((bn, cel 34 (nc ([mv0, mv0]))) :: Lst)) rfl (by show List.Perm _ ((bn, cel 34 (nc [mv0, mv0])) :: _); exact List.perm_middle) ?_
 refine RL.assign rfl ?_
 refine RL.nil ?_
 refine X.block ?_
 refine X.loop (γ := Nat) (fun g ρ L => ∃ ss : List Mv, (g ≤ 100) ∧ (SOk (2 * (g : Int)) ss) ∧ Has ρ [(0, .int .i64 d), (1, .slice A0 l.length c0), (5, .pointer (some ⟨rb, 0, none⟩)), (7, .pointer (some ⟨bn, 0, none⟩)), (8, .int .i64 g)] ∧ L = RegG rb A cp Lr (((d : Nat) : Int)) xs (ss) ++ ((bn, cel 34 (nc (ss))) :: Lst)) (fun g => 100 - g) (0) ⟨_, (by repeat (first | exact sb0 _ | exact sb1 _ | (rw [List.append_nil]; exact sb0 _) | exact sb2 _ _ | exact sb3 _ _ _ | apply sb4 | apply sb5 | apply sb6)), [mv0, mv0], Nat.zero_le _, so_start, ⟨rfl, rfl, rfl, rfl, rfl, trivial⟩, rfl⟩ ?_
 rintro g _ _ ⟨ss, hg0, hok, hρ, rfl⟩
 obtain ⟨base, rfl⟩ := hρ.base
 clear hρ
 refine X.seq ?_
 refine X.seq ?_
 refine X.cut (fun ρ ds L => ds = [] ∧ Has ρ [(0, .int .i64 d), (1, .slice A0 l.length c0), (5, .pointer (some ⟨rb, 0, none⟩)), (7, .pointer (some ⟨bn, 0, none⟩)), (8, .int .i64 g), (36, .bool (decide (g < l.length ∧ g < 100)))] ∧ L = RegG rb A cp Lr (((d : Nat) : Int)) xs (ss) ++ ((bn, cel 34 (nc (ss))) :: Lst)) ?_ ?_
 ·refine X.region rfl ?_
  refine RL.move rfl ?_
  refine RL.move rfl ?_
  refine RL.len rfl sl22 rfl ?_
  refine RL.cmp_s rfl rfl rfl rfl (fun hl => ?_) (fun hl => ?_)
  ·replace hl : (_ : Int) < _ := hl
   refine RL.move rfl ?_
   refine RL.move rfl ?_
   refine RL.cmp_s rfl rfl rfl rfl (fun h100 => ?_) (fun h100 => ?_)
   ·replace h100 : (_ : Int) < _ := h100
    refine RL.pick_t rfl rfl ?_
    refine RL.nil ?_
    refine X.hyp ⟨rfl, ⟨rfl, rfl, rfl, rfl, rfl, ?_, trivial⟩, rfl⟩
    exact congrArg Value.bool (decide_eq_true (by omega)).symm
   replace h100 : ¬ ((_ : Int) < _) := h100
   refine RL.pick_t rfl rfl ?_
   refine RL.nil ?_
   refine X.hyp ⟨rfl, ⟨rfl, rfl, rfl, rfl, rfl, ?_, trivial⟩, rfl⟩
   exact congrArg Value.bool (decide_eq_false (by omega)).symm
  replace hl : ¬ ((_ : Int) < _) := hl
  refine RL.move rfl ?_
  refine RL.skip rfl ?_
  refine RL.skip rfl ?_
  refine RL.pick_f rfl rfl ?_
  refine RL.nil ?_
  refine X.hyp ⟨rfl, ⟨rfl, rfl, rfl, rfl, rfl, ?_, trivial⟩, rfl⟩
  exact congrArg Value.bool (decide_eq_false (by omega)).symm
 rintro _ _ _ ⟨rfl, hρ, rfl⟩
 obtain ⟨base, rfl⟩ := hρ.base
 clear hρ
 refine X.cond_s rfl (fun hl => ?_) (fun hl => ?_)
 ·obtain ⟨a, ha⟩ : ∃ a, l[g]? = some a := ⟨_, List.getElem?_eq_getElem hl.1⟩
  refine X.skip ?_
  refine X.seq ?_
  refine X.block ?_
  refine X.seq ?_
  refine X.region rfl ?_
  refine RL.move rfl ?_
  refine RL.move rfl ?_
  refine RL.indexAddr rfl sl22 rfl rfl (hA (by omega)) rfl (by omega) ?_
  refine RL.loadIA rfl ag36 rfl (elem_at Ac.len hc ha) (by simp) (Ac.len _) ?_
  refine RL.alloc rfl rfl zt36 ?_
  intro b9 hb9
  dsimp only at hb9
  refine RL.stA rfl rfl ag36.size rfl rfl (Ac.len a) rfl (by simp [Ac.cells, Value.oneCell']) ?_
  refine RL.nil ?_
  refine X.seq ?_
  obtain ⟨m, em, hm2⟩ := pick_nat a.mo (n := 2) (by decide)
  obtain ⟨k, ek, hk3⟩ := pick_nat a.what (n := 3) (by decide)
  refine X.draw (by kernel_rfl) (by kernel_rfl) ?_
  refine RL.fieldAddr rfl fd36_1 rfl ?_
  refine RL.loadO rfl sc3 rfl rfl ?_
  refine RL.fnQ (v := .int .i64 ((m : Nat) : Int)) rfl rfl en9 (fun w1 hw1 => (f_pick a.mo 2 w1 (by decide) (by decide)).mono fun v L h => (by rw [h]; exact congrArg (Value.int .i64) em)) rfl ?_
  refine RL.fieldAddr rfl fd36_2 rfl ?_
  refine RL.loadO rfl sc3 rfl rfl ?_
  refine RL.fnQ (v := .int .i64 ((k : Nat) : Int)) rfl rfl en9 (fun w1 hw1 => (f_pick a.what 3 w1 (by decide) (by decide)).mono fun v L h => (by rw [h]; exact congrArg (Value.int .i64) ek)) rfl ?_
  refine RL.assign rfl ?_
  refine RL.assign rfl ?_
  refine RL.nil ?_
  refine X.seq ?_
  refine X.seq ?_
  refine X.region rfl ?_
  refine RL.move rfl ?_
  refine RL.move rfl ?_
  refine RL.move rfl ?_
  refine RL.fieldAddr rfl fd36_3 rfl ?_
  obtain ⟨s, hs⟩ : ∃ s, ss[m]? = some s := ⟨_, List.getElem?_eq_getElem (by rw [hok.len]; exact hm2)⟩
  obtain ⟨e, ss2, he, hok2, he0, he1⟩ := so_count a.up hok (by omega) (by omega) hs hk3
  have hv := hok.get hs
  have hck := hv.c hk3
  refine RL.loadO rfl sc4 rfl rfl ?_
  refine RL.fn (Lp := RegG rb A cp Lr (((d : Nat) : Int)) xs (ss)) (Lr := ((b9, cel 36 a.cells) :: ((bn, cel 34 (nc (ss))) :: Lst))) rfl rfl rfl en12 (by classical exact List.perm_iff_count.2 (fun z => by simp only [List.count_append, List.count_cons, List.count_nil, List.cons_append, List.nil_append, List.set_cons_zero, List.set_cons_succ] <;> omega)) (fun w1 hw1 => f_count (m : Nat) (k : Nat) a.up rb cp A Lr (((d : Nat) : Int)) xs (ss) (by rw [hxl]; exact hok.len) hx5 hrow w1 (fun p hp => hw1.own p (List.mem_append_left _ hp)) (hw1.nodup.sublist ((List.sublist_append_left _ _).map _))) rfl ?_
  rintro _ Lz ⟨rfl, rfl⟩
  rw [he]
  refine RL.cmp_d rfl rfl rfl rfl ?_
  refine RL.nil ?_
  refine X.cut (fun ρ ds L => ds = [] ∧ Has ρ [(0, .int .i64 d), (1, .slice A0 l.length c0), (5, .pointer (some ⟨rb, 0, none⟩)), (7, .pointer (some ⟨bn, 0, none⟩)), (8, .int .i64 g), (9, .pointer (some ⟨b9, 0, none⟩))] ∧ L = RegG rb A cp Lr (((d : Nat) : Int)) xs (ss2) ++ ((b9, cel 36 a.cells) :: ((bn, cel 34 (nc (ss2))) :: Lst))) ?_ ?_
  ·refine X.cond_s rfl (fun hez => ?_) (fun hez => ?_)
   ·refine X.seq ?_
    refine X.region rfl ?_
    refine RL.fieldAddr rfl fd36_3 rfl ?_
    refine RL.loadO rfl sc4 rfl rfl ?_
    refine RL.nil ?_
    refine X.cond_b rfl (fun hup => ?_) (fun hup => ?_)
    ·refine X.set [.val (.int .i64 ((m : Nat) : Int)), .val (.int .i64 ((k : Nat) : Int)), .val (.pointer (some ⟨bn, 0 + m * 3, none⟩)), .val (.pointer (some ⟨bn, 0 + m * 3 + k * 1, none⟩)), .val (.int .i64 (s.c k)), .val (.int .i64 (((s.c k)) + (1))), .val (.pointer (some ⟨bn, 0 + m * 3, none⟩)), .val (.pointer (some ⟨bn, 0 + m * 3 + k * 1, none⟩)), .any] [[], [], [0], [0, 1, 2], [0, 1, 2, 3], [0, 1, 2, 3, 4], [0], [0, 1, 2, 3, 4, 5, 6], [0, 1, 2, 3, 4, 5, 6, 7]] (fun D ρ L => (D 8 = false ∧ True ∧ Has ρ [] ∧ L.Perm ((RegG rb A cp Lr (((d : Nat) : Int)) xs (ss2)) ++ (([(b9, cel 36 a.cells)]) ++ (([(bn, cel 34 (nc (ss)))]) ++ (Lst))))) ∨ (D 8 = true ∧ True ∧ Has ρ [] ∧ L.Perm ((RegG rb A cp Lr (((d : Nat) : Int)) xs (ss2)) ++ (([(b9, cel 36 a.cells)]) ++ (([(bn, cel 34 ((nc ss).set (0 + m * 3 + k * 1) (.int .i64 ((s.c k) + (1)))))]) ++ (Lst)))))) rfl (by kernel_rfl) (by kernel_rfl) (by kernel_rfl) (by kernel_rfl) (fun D hD => .inl ⟨hD 8, trivial, trivial, (List.Perm.refl _)⟩) ⟨?_, ?_, ?_, ?_, ?_, ?_, ?_, ?_, ?_, trivial⟩ ?_
     ·intro ρ L D hS
      rcases hS.sp with ⟨e8, -, hρ, hL⟩ | ⟨e8, -, hρ, hL⟩
      ·have u10 : ρ 10 = .int .i64 ((m : Nat) : Int) := hS.fix 10 (by decide)
       clear hS hρ
       obtain ⟨base, rfl⟩ := Has.base (ρ := ρ) (l := [(10, .int .i64 ((m : Nat) : Int))]) ⟨u10, trivial⟩
       clear u10
       refine RL.perm rfl hL.symm ?_
       clear hL
       refine RL.move rfl ?_
       refine RL.nil ?_
       exact ⟨rfl, ⟨_, rfl, rfl⟩, .inl ⟨e8, trivial, trivial, List.Perm.refl _⟩⟩
      exact hS.hi 8 rfl (by kernel_rfl) e8
     ·intro ρ L D hS
      rcases hS.sp with ⟨e8, -, hρ, hL⟩ | ⟨e8, -, hρ, hL⟩
      ·have u11 : ρ 11 = .int .i64 ((k : Nat) : Int) := hS.fix 11 (by decide)
       clear hS hρ
       obtain ⟨base, rfl⟩ := Has.base (ρ := ρ) (l := [(11, .int .i64 ((k : Nat) : Int))]) ⟨u11, trivial⟩
       clear u11
       refine RL.perm rfl hL.symm ?_
       clear hL
       refine RL.move rfl ?_
       refine RL.nil ?_
       exact ⟨rfl, ⟨_, rfl, rfl⟩, .inl ⟨e8, trivial, trivial, List.Perm.refl _⟩⟩
      exact hS.hi 8 rfl (by kernel_rfl) e8
     ·intro ρ L D hS
      rcases hS.sp with ⟨e8, -, hρ, hL⟩ | ⟨e8, -, hρ, hL⟩
      ·have u7 : ρ 7 = .pointer (some ⟨bn, 0, none⟩) := hS.fix 7 (by decide)
       have u58 : ρ 58 = .int .i64 ((m : Nat) : Int) := hS.dep ⟨0, Ground.data⟩ (by simp) rfl _ _ rfl rfl
       clear hS hρ
       obtain ⟨base, rfl⟩ := Has.base (ρ := ρ) (l := [(7, .pointer (some ⟨bn, 0, none⟩)), (58, .int .i64 ((m : Nat) : Int))]) ⟨u7, u58, trivial⟩
       clear u7 u58
       refine RL.perm rfl hL.symm ?_
       clear hL
       refine RL.indexArr (sz := 3) rfl Try.underlying34 ag33.size rfl rfl rfl (by omega) ?_
       refine RL.nil ?_
       exact ⟨rfl, ⟨_, rfl, rfl⟩, .inl ⟨e8, trivial, trivial, List.Perm.refl _⟩⟩
      exact hS.hi 8 rfl (by kernel_rfl) e8
     ·intro ρ L D hS
      rcases hS.sp with ⟨e8, -, hρ, hL⟩ | ⟨e8, -, hρ, hL⟩
      ·have u59 : ρ 59 = .int .i64 ((k : Nat) : Int) := hS.dep ⟨1, Ground.data⟩ (by simp) rfl _ _ rfl rfl
       have u60 : ρ 60 = .pointer (some ⟨bn, 0 + m * 3, none⟩) := hS.dep ⟨2, Ground.data⟩ (by simp) rfl _ _ rfl rfl
       clear hS hρ
       obtain ⟨base, rfl⟩ := Has.base (ρ := ρ) (l := [(59, .int .i64 ((k : Nat) : Int)), (60, .pointer (some ⟨bn, 0 + m * 3, none⟩))]) ⟨u59, u60, trivial⟩
       clear u59 u60
       refine RL.perm rfl hL.symm ?_
       clear hL
       refine RL.indexArr (sz := 1) rfl Try.underlying33 sc3.size rfl rfl rfl (by omega) ?_
       refine RL.nil ?_
       exact ⟨rfl, ⟨_, rfl, rfl⟩, .inl ⟨e8, trivial, trivial, List.Perm.refl _⟩⟩
      exact hS.hi 8 rfl (by kernel_rfl) e8
     ·intro ρ L D hS
      rcases hS.sp with ⟨e8, -, hρ, hL⟩ | ⟨e8, -, hρ, hL⟩
      ·have u61 : ρ 61 = .pointer (some ⟨bn, 0 + m * 3 + k * 1, none⟩) := hS.dep ⟨3, Ground.data⟩ (by simp) rfl _ _ rfl rfl
       clear hS hρ
       obtain ⟨base, rfl⟩ := Has.base (ρ := ρ) (l := [(61, .pointer (some ⟨bn, 0 + m * 3 + k * 1, none⟩))]) ⟨u61, trivial⟩
       clear u61
       refine RL.perm rfl hL.symm ?_
       clear hL
       refine RL.loadO rfl sc3 rfl (nc_get hok.len hs hk3) ?_
       refine RL.nil ?_
       exact ⟨rfl, ⟨_, rfl, rfl⟩, .inl ⟨e8, trivial, trivial, List.Perm.refl _⟩⟩
      exact hS.hi 8 rfl (by kernel_rfl) e8
     ·intro ρ L D hS
      rcases hS.sp with ⟨e8, -, hρ, hL⟩ | ⟨e8, -, hρ, hL⟩
      ·have u62 : ρ 62 = .int .i64 (s.c k) := hS.dep ⟨4, Ground.data⟩ (by simp) rfl _ _ rfl rfl
       clear hS hρ
       obtain ⟨base, rfl⟩ := Has.base (ρ := ρ) (l := [(62, .int .i64 (s.c k))]) ⟨u62, trivial⟩
       clear u62
       refine RL.perm rfl hL.symm ?_
       clear hL
       refine RL.add rfl rfl rfl (by omega) ?_
       refine RL.nil ?_
       exact ⟨rfl, ⟨_, rfl, rfl⟩, .inl ⟨e8, trivial, trivial, List.Perm.refl _⟩⟩
      exact hS.hi 8 rfl (by kernel_rfl) e8
     ·intro ρ L D hS
      rcases hS.sp with ⟨e8, -, hρ, hL⟩ | ⟨e8, -, hρ, hL⟩
      ·have u7 : ρ 7 = .pointer (some ⟨bn, 0, none⟩) := hS.fix 7 (by decide)
       have u58 : ρ 58 = .int .i64 ((m : Nat) : Int) := hS.dep ⟨0, Ground.data⟩ (by simp) rfl _ _ rfl rfl
       clear hS hρ
       obtain ⟨base, rfl⟩ := Has.base (ρ := ρ) (l := [(7, .pointer (some ⟨bn, 0, none⟩)), (58, .int .i64 ((m : Nat) : Int))]) ⟨u7, u58, trivial⟩
       clear u7 u58
       refine RL.perm rfl hL.symm ?_
       clear hL
       refine RL.indexArr (sz := 3) rfl Try.underlying34 ag33.size rfl rfl rfl (by omega) ?_
       refine RL.nil ?_
       exact ⟨rfl, ⟨_, rfl, rfl⟩, .inl ⟨e8, trivial, trivial, List.Perm.refl _⟩⟩
      exact hS.hi 8 rfl (by kernel_rfl) e8
     ·intro ρ L D hS
      rcases hS.sp with ⟨e8, -, hρ, hL⟩ | ⟨e8, -, hρ, hL⟩
      ·have u59 : ρ 59 = .int .i64 ((k : Nat) : Int) := hS.dep ⟨1, Ground.data⟩ (by simp) rfl _ _ rfl rfl
       have u64 : ρ 64 = .pointer (some ⟨bn, 0 + m * 3, none⟩) := hS.dep ⟨6, Ground.data⟩ (by simp) rfl _ _ rfl rfl
       clear hS hρ
       obtain ⟨base, rfl⟩ := Has.base (ρ := ρ) (l := [(59, .int .i64 ((k : Nat) : Int)), (64, .pointer (some ⟨bn, 0 + m * 3, none⟩))]) ⟨u59, u64, trivial⟩
       clear u59 u64
       refine RL.perm rfl hL.symm ?_
       clear hL
       refine RL.indexArr (sz := 1) rfl Try.underlying33 sc3.size rfl rfl rfl (by omega) ?_
       refine RL.nil ?_
       exact ⟨rfl, ⟨_, rfl, rfl⟩, .inl ⟨e8, trivial, trivial, List.Perm.refl _⟩⟩
      exact hS.hi 8 rfl (by kernel_rfl) e8
     ·intro ρ L D hS
      rcases hS.sp with ⟨e8, -, hρ, hL⟩ | ⟨e8, -, hρ, hL⟩
      ·have u63 : ρ 63 = .int .i64 (((s.c k)) + (1)) := hS.dep ⟨5, Ground.data⟩ (by simp) rfl _ _ rfl rfl
       have u65 : ρ 65 = .pointer (some ⟨bn, 0 + m * 3 + k * 1, none⟩) := hS.dep ⟨7, Ground.data⟩ (by simp) rfl _ _ rfl rfl
       clear hS hρ
       obtain ⟨base, rfl⟩ := Has.base (ρ := ρ) (l := [(63, .int .i64 (((s.c k)) + (1))), (65, .pointer (some ⟨bn, 0 + m * 3 + k * 1, none⟩))]) ⟨u63, u65, trivial⟩
       clear u63 u65
       refine RL.perm rfl hL.symm ?_
       clear hL
       refine RL.stI rfl rfl sc3.size rfl rfl (by rw [nc_len hok.len]; omega) ?_
       refine RL.nil ?_
       exact ⟨rfl, ⟨_, rfl, trivial⟩, .inr (⟨rfl, trivial, trivial, (pmm fun _ _ z => by simp only [pm1, pm2, pm3, pm4, pm5, pm6, List.cons_append, List.nil_append] <;> omega)⟩)⟩
      exact hS.me e8
     intro ρ L D hD hT hfix hsp
     rcases hsp with ⟨e8, -, hρ, hL⟩ | ⟨e8, -, hρ, hL⟩
     ·exact done_no hD 8 rfl e8
     have u0 : ρ 0 = .int .i64 d := hfix 0 (by decide)
     have u1 : ρ 1 = .slice A0 l.length c0 := hfix 1 (by decide)
     have u5 : ρ 5 = .pointer (some ⟨rb, 0, none⟩) := hfix 5 (by decide)
     have u7 : ρ 7 = .pointer (some ⟨bn, 0, none⟩) := hfix 7 (by decide)
     have u8 : ρ 8 = .int .i64 g := hfix 8 (by decide)
     have u9 : ρ 9 = .pointer (some ⟨b9, 0, none⟩) := hfix 9 (by decide)
     clear hT hfix hD hρ
     obtain ⟨base, rfl⟩ := Has.base (ρ := ρ) (l := [(0, .int .i64 d), (1, .slice A0 l.length c0), (5, .pointer (some ⟨rb, 0, none⟩)), (7, .pointer (some ⟨bn, 0, none⟩)), (8, .int .i64 g), (9, .pointer (some ⟨b9, 0, none⟩))]) ⟨u0, u1, u5, u7, u8, u9, trivial⟩
     clear u0 u1 u5 u7 u8 u9
     refine ⟨_, hL.symm, ((RegG rb A cp Lr (((d : Nat) : Int)) xs (ss2)) ++ (([(b9, cel 36 a.cells)]) ++ (([(bn, cel 34 ((nc ss).set (0 + m * 3 + k * 1) (.int .i64 ((s.c k) + (1)))))]) ++ (Lst)))), List.Sublist.append (List.Sublist.refl _) (List.Sublist.append (List.Sublist.refl _) (List.Sublist.append (List.Sublist.refl _) (List.Sublist.refl _))), ?_⟩
     have e2 : ss2 = ss.set m (s.put k (s.c k + 1)) := by rw [he0 hez, hup]; rfl
     refine X.hyp ⟨rfl, ⟨rfl, rfl, rfl, rfl, rfl, rfl, trivial⟩, ?_⟩
     rw [nc_put hok.len hs hk3, ← e2]; rfl
    refine X.set [.val (.int .i64 ((m : Nat) : Int)), .val (.int .i64 ((k : Nat) : Int)), .val (.pointer (some ⟨bn, 0 + m * 3, none⟩)), .val (.pointer (some ⟨bn, 0 + m * 3 + k * 1, none⟩)), .val (.int .i64 (s.c k)), .val (.int .i64 (((s.c k)) - (1))), .val (.pointer (some ⟨bn, 0 + m * 3, none⟩)), .val (.pointer (some ⟨bn, 0 + m * 3 + k * 1, none⟩)), .any] [[], [], [0], [0, 1, 2], [0, 1, 2, 3], [0, 1, 2, 3, 4], [0], [0, 1, 2, 3, 4, 5, 6], [0, 1, 2, 3, 4, 5, 6, 7]] (fun D ρ L => (D 8 = false ∧ True ∧ Has ρ [] ∧ L.Perm ((RegG rb A cp Lr (((d : Nat) : Int)) xs (ss2)) ++ (([(b9, cel 36 a.cells)]) ++ (([(bn, cel 34 (nc (ss)))]) ++ (Lst))))) ∨ (D 8 = true ∧ True ∧ Has ρ [] ∧ L.Perm ((RegG rb A cp Lr (((d : Nat) : Int)) xs (ss2)) ++ (([(b9, cel 36 a.cells)]) ++ (([(bn, cel 34 ((nc ss).set (0 + m * 3 + k * 1) (.int .i64 ((s.c k) - (1)))))]) ++ (Lst)))))) rfl (by kernel_rfl) (by kernel_rfl) (by kernel_rfl) (by kernel_rfl) (fun D hD => .inl ⟨hD 8, trivial, trivial, (List.Perm.refl _)⟩) ⟨?_, ?_, ?_, ?_, ?_, ?_, ?_, ?_, ?_, trivial⟩ ?_
    ·intro ρ L D hS
     rcases hS.sp with ⟨e8, -, hρ, hL⟩ | ⟨e8, -, hρ, hL⟩
     ·have u10 : ρ 10 = .int .i64 ((m : Nat) : Int) := hS.fix 10 (by decide)
      clear hS hρ
      obtain ⟨base, rfl⟩ := Has.base (ρ := ρ) (l := [(10, .int .i64 ((m : Nat) : Int))]) ⟨u10, trivial⟩
      clear u10
      refine RL.perm rfl hL.symm ?_
      clear hL
      refine RL.move rfl ?_
      refine RL.nil ?_
      exact ⟨rfl, ⟨_, rfl, rfl⟩, .inl ⟨e8, trivial, trivial, List.Perm.refl _⟩⟩
     exact hS.hi 8 rfl (by kernel_rfl) e8
    ·intro ρ L D hS
     rcases hS.sp with ⟨e8, -, hρ, hL⟩ | ⟨e8, -, hρ, hL⟩
     ·have u11 : ρ 11 = .int .i64 ((k : Nat) : Int) := hS.fix 11 (by decide)
      clear hS hρ
      obtain ⟨base, rfl⟩ := Has.base (ρ := ρ) (l := [(11, .int .i64 ((k : Nat) : Int))]) ⟨u11, trivial⟩
      clear u11
      refine RL.perm rfl hL.symm ?_
      clear hL
      refine RL.move rfl ?_
      refine RL.nil ?_
      exact ⟨rfl, ⟨_, rfl, rfl⟩, .inl ⟨e8, trivial, trivial, List.Perm.refl _⟩⟩
     exact hS.hi 8 rfl (by kernel_rfl) e8
    ·intro ρ L D hS
     rcases hS.sp with ⟨e8, -, hρ, hL⟩ | ⟨e8, -, hρ, hL⟩
     ·have u7 : ρ 7 = .pointer (some ⟨bn, 0, none⟩) := hS.fix 7 (by decide)
      have u66 : ρ 66 = .int .i64 ((m : Nat) : Int) := hS.dep ⟨0, Ground.data⟩ (by simp) rfl _ _ rfl rfl
      clear hS hρ
      obtain ⟨base, rfl⟩ := Has.base (ρ := ρ) (l := [(7, .pointer (some ⟨bn, 0, none⟩)), (66, .int .i64 ((m : Nat) : Int))]) ⟨u7, u66, trivial⟩
      clear u7 u66
      refine RL.perm rfl hL.symm ?_
      clear hL
      refine RL.indexArr (sz := 3) rfl Try.underlying34 ag33.size rfl rfl rfl (by omega) ?_
      refine RL.nil ?_
      exact ⟨rfl, ⟨_, rfl, rfl⟩, .inl ⟨e8, trivial, trivial, List.Perm.refl _⟩⟩
     exact hS.hi 8 rfl (by kernel_rfl) e8
    ·intro ρ L D hS
     rcases hS.sp with ⟨e8, -, hρ, hL⟩ | ⟨e8, -, hρ, hL⟩
     ·have u67 : ρ 67 = .int .i64 ((k : Nat) : Int) := hS.dep ⟨1, Ground.data⟩ (by simp) rfl _ _ rfl rfl
      have u68 : ρ 68 = .pointer (some ⟨bn, 0 + m * 3, none⟩) := hS.dep ⟨2, Ground.data⟩ (by simp) rfl _ _ rfl rfl
      clear hS hρ
      obtain ⟨base, rfl⟩ := Has.base (ρ := ρ) (l := [(67, .int .i64 ((k : Nat) : Int)), (68, .pointer (some ⟨bn, 0 + m * 3, none⟩))]) ⟨u67, u68, trivial⟩
      clear u67 u68
      refine RL.perm rfl hL.symm ?_
      clear hL
      refine RL.indexArr (sz := 1) rfl Try.underlying33 sc3.size rfl rfl rfl (by omega) ?_
      refine RL.nil ?_
      exact ⟨rfl, ⟨_, rfl, rfl⟩, .inl ⟨e8, trivial, trivial, List.Perm.refl _⟩⟩
     exact hS.hi 8 rfl (by kernel_rfl) e8
    ·intro ρ L D hS
     rcases hS.sp with ⟨e8, -, hρ, hL⟩ | ⟨e8, -, hρ, hL⟩
     ·have u69 : ρ 69 = .pointer (some ⟨bn, 0 + m * 3 + k * 1, none⟩) := hS.dep ⟨3, Ground.data⟩ (by simp) rfl _ _ rfl rfl
      clear hS hρ
      obtain ⟨base, rfl⟩ := Has.base (ρ := ρ) (l := [(69, .pointer (some ⟨bn, 0 + m * 3 + k * 1, none⟩))]) ⟨u69, trivial⟩
      clear u69
      refine RL.perm rfl hL.symm ?_
      clear hL
      refine RL.loadO rfl sc3 rfl (nc_get hok.len hs hk3) ?_
      refine RL.nil ?_
      exact ⟨rfl, ⟨_, rfl, rfl⟩, .inl ⟨e8, trivial, trivial, List.Perm.refl _⟩⟩
     exact hS.hi 8 rfl (by kernel_rfl) e8
    ·intro ρ L D hS
     rcases hS.sp with ⟨e8, -, hρ, hL⟩ | ⟨e8, -, hρ, hL⟩
     ·have u70 : ρ 70 = .int .i64 (s.c k) := hS.dep ⟨4, Ground.data⟩ (by simp) rfl _ _ rfl rfl
      clear hS hρ
      obtain ⟨base, rfl⟩ := Has.base (ρ := ρ) (l := [(70, .int .i64 (s.c k))]) ⟨u70, trivial⟩
      clear u70
      refine RL.perm rfl hL.symm ?_
      clear hL
      refine RL.sub rfl rfl rfl (by omega) ?_
      refine RL.nil ?_
      exact ⟨rfl, ⟨_, rfl, rfl⟩, .inl ⟨e8, trivial, trivial, List.Perm.refl _⟩⟩
     exact hS.hi 8 rfl (by kernel_rfl) e8
    ·intro ρ L D hS
     rcases hS.sp with ⟨e8, -, hρ, hL⟩ | ⟨e8, -, hρ, hL⟩
     ·have u7 : ρ 7 = .pointer (some ⟨bn, 0, none⟩) := hS.fix 7 (by decide)
      have u66 : ρ 66 = .int .i64 ((m : Nat) : Int) := hS.dep ⟨0, Ground.data⟩ (by simp) rfl _ _ rfl rfl
      clear hS hρ
      obtain ⟨base, rfl⟩ := Has.base (ρ := ρ) (l := [(7, .pointer (some ⟨bn, 0, none⟩)), (66, .int .i64 ((m : Nat) : Int))]) ⟨u7, u66, trivial⟩
      clear u7 u66
      refine RL.perm rfl hL.symm ?_
      clear hL
      refine RL.indexArr (sz := 3) rfl Try.underlying34 ag33.size rfl rfl rfl (by omega) ?_
      refine RL.nil ?_
      exact ⟨rfl, ⟨_, rfl, rfl⟩, .inl ⟨e8, trivial, trivial, List.Perm.refl _⟩⟩
     exact hS.hi 8 rfl (by kernel_rfl) e8
    ·intro ρ L D hS
     rcases hS.sp with ⟨e8, -, hρ, hL⟩ | ⟨e8, -, hρ, hL⟩
     ·have u67 : ρ 67 = .int .i64 ((k : Nat) : Int) := hS.dep ⟨1, Ground.data⟩ (by simp) rfl _ _ rfl rfl
      have u72 : ρ 72 = .pointer (some ⟨bn, 0 + m * 3, none⟩) := hS.dep ⟨6, Ground.data⟩ (by simp) rfl _ _ rfl rfl
      clear hS hρ
      obtain ⟨base, rfl⟩ := Has.base (ρ := ρ) (l := [(67, .int .i64 ((k : Nat) : Int)), (72, .pointer (some ⟨bn, 0 + m * 3, none⟩))]) ⟨u67, u72, trivial⟩
      clear u67 u72
      refine RL.perm rfl hL.symm ?_
      clear hL
      refine RL.indexArr (sz := 1) rfl Try.underlying33 sc3.size rfl rfl rfl (by omega) ?_
      refine RL.nil ?_
      exact ⟨rfl, ⟨_, rfl, rfl⟩, .inl ⟨e8, trivial, trivial, List.Perm.refl _⟩⟩
     exact hS.hi 8 rfl (by kernel_rfl) e8
    ·intro ρ L D hS
     rcases hS.sp with ⟨e8, -, hρ, hL⟩ | ⟨e8, -, hρ, hL⟩
     ·have u71 : ρ 71 = .int .i64 (((s.c k)) - (1)) := hS.dep ⟨5, Ground.data⟩ (by simp) rfl _ _ rfl rfl
      have u73 : ρ 73 = .pointer (some ⟨bn, 0 + m * 3 + k * 1, none⟩) := hS.dep ⟨7, Ground.data⟩ (by simp) rfl _ _ rfl rfl
      clear hS hρ
      obtain ⟨base, rfl⟩ := Has.base (ρ := ρ) (l := [(71, .int .i64 (((s.c k)) - (1))), (73, .pointer (some ⟨bn, 0 + m * 3 + k * 1, none⟩))]) ⟨u71, u73, trivial⟩
      clear u71 u73
      refine RL.perm rfl hL.symm ?_
      clear hL
      refine RL.stI rfl rfl sc3.size rfl rfl (by rw [nc_len hok.len]; omega) ?_
      refine RL.nil ?_
      exact ⟨rfl, ⟨_, rfl, trivial⟩, .inr (⟨rfl, trivial, trivial, (pmm fun _ _ z => by simp only [pm1, pm2, pm3, pm4, pm5, pm6, List.cons_append, List.nil_append] <;> omega)⟩)⟩
     exact hS.me e8
    intro ρ L D hD hT hfix hsp
    rcases hsp with ⟨e8, -, hρ, hL⟩ | ⟨e8, -, hρ, hL⟩
    ·exact done_no hD 8 rfl e8
    have u0 : ρ 0 = .int .i64 d := hfix 0 (by decide)
    have u1 : ρ 1 = .slice A0 l.length c0 := hfix 1 (by decide)
    have u5 : ρ 5 = .pointer (some ⟨rb, 0, none⟩) := hfix 5 (by decide)
    have u7 : ρ 7 = .pointer (some ⟨bn, 0, none⟩) := hfix 7 (by decide)
    have u8 : ρ 8 = .int .i64 g := hfix 8 (by decide)
    have u9 : ρ 9 = .pointer (some ⟨b9, 0, none⟩) := hfix 9 (by decide)
    clear hT hfix hD hρ
    obtain ⟨base, rfl⟩ := Has.base (ρ := ρ) (l := [(0, .int .i64 d), (1, .slice A0 l.length c0), (5, .pointer (some ⟨rb, 0, none⟩)), (7, .pointer (some ⟨bn, 0, none⟩)), (8, .int .i64 g), (9, .pointer (some ⟨b9, 0, none⟩))]) ⟨u0, u1, u5, u7, u8, u9, trivial⟩
    clear u0 u1 u5 u7 u8 u9
    refine ⟨_, hL.symm, ((RegG rb A cp Lr (((d : Nat) : Int)) xs (ss2)) ++ (([(b9, cel 36 a.cells)]) ++ (([(bn, cel 34 ((nc ss).set (0 + m * 3 + k * 1) (.int .i64 ((s.c k) - (1)))))]) ++ (Lst)))), List.Sublist.append (List.Sublist.refl _) (List.Sublist.append (List.Sublist.refl _) (List.Sublist.append (List.Sublist.refl _) (List.Sublist.refl _))), ?_⟩
    have e2 : ss2 = ss.set m (s.put k (s.c k - 1)) := by rw [he0 hez, hup]; rfl
    refine X.hyp ⟨rfl, ⟨rfl, rfl, rfl, rfl, rfl, rfl, trivial⟩, ?_⟩
    rw [nc_put hok.len hs hk3, ← e2]; rfl
   refine X.skip ?_
   refine X.hyp ⟨rfl, ⟨rfl, rfl, rfl, rfl, rfl, rfl, trivial⟩, ?_⟩
   rw [he1 hez]
  rintro _ _ _ ⟨rfl, hρ, rfl⟩
  obtain ⟨base, rfl⟩ := hρ.base
  clear hρ
  refine X.seq ?_
  refine X.seq ?_
  refine X.region rfl ?_
  refine RL.fieldAddr rfl fd36_0 rfl ?_
  refine RL.loadO rfl sc3 rfl rfl ?_
  refine RL.andE rfl rfl rfl ?_
  intro r
  refine RL.cmp_d rfl rfl rfl rfl ?_
  refine RL.nil ?_
  refine X.cut (fun ρ ds L => ∃ ss3, SOk (2 * ((g + 1 : Nat) : Int)) ss3 ∧ ds = [] ∧ Has ρ [(0, .int .i64 d), (1, .slice A0 l.length c0), (5, .pointer (some ⟨rb, 0, none⟩)), (7, .pointer (some ⟨bn, 0, none⟩)), (8, .int .i64 g)] ∧ L = RegG rb A cp Lr (((d : Nat) : Int)) xs (ss3) ++ ((b9, cel 36 a.cells) :: ((bn, cel 34 (nc (ss3))) :: Lst))) ?_ ?_
  ·refine X.cond_s rfl (fun ht => ?_) (fun ht => ?_)
   ·refine X.region rfl ?_
    refine RL.move rfl ?_
    refine RL.fn (Lp := RegG rb A cp Lr (((d : Nat) : Int)) xs (ss2)) (Lr := ((b9, cel 36 a.cells) :: ((bn, cel 34 (nc (ss2))) :: Lst))) rfl rfl rfl en13 (by classical exact List.perm_iff_count.2 (fun z => by simp only [List.count_append, List.count_cons, List.count_nil, List.cons_append, List.nil_append, List.set_cons_zero, List.set_cons_succ] <;> omega)) (fun w1 hw1 => f_tick rb cp A Lr (((d : Nat) : Int)) xs (ss2) (by rw [hxl]; exact hok2.len) hx5 hrow w1 (fun p hp => hw1.own p (List.mem_append_left _ hp)) (hw1.nodup.sublist ((List.sublist_append_left _ _).map _))) rfl ?_
    rintro _ Lz ⟨rfl, rfl⟩
    skip
    refine RL.nil ?_
    refine X.hyp ⟨ss2.map tickP, (hok2.map fun s h => h.tick (by omega)).mono (by omega), rfl, ⟨rfl, rfl, rfl, rfl, rfl, trivial⟩, ?_⟩
    rw [nc_tick]
   refine X.skip ?_
   exact X.hyp ⟨ss2, hok2.mono (by omega), rfl, ⟨rfl, rfl, rfl, rfl, rfl, trivial⟩, rfl⟩
  rintro _ _ _ ⟨ss3, hok3, rfl, hρ, rfl⟩
  obtain ⟨base, rfl⟩ := hρ.base
  clear hρ
  refine X.seq ?_
  refine X.region rfl ?_
  refine RL.move rfl ?_
  refine RL.fn (Lp := RegG rb A cp Lr (((d : Nat) : Int)) xs (ss3)) (Lr := ((b9, cel 36 a.cells) :: ((bn, cel 34 (nc (ss3))) :: Lst))) rfl rfl rfl en14 (by classical exact List.perm_iff_count.2 (fun z => by simp only [List.count_append, List.count_cons, List.count_nil, List.cons_append, List.nil_append, List.set_cons_zero, List.set_cons_succ] <;> omega)) (fun w1 hw1 => f_free rb cp A Lr (((d : Nat) : Int)) xs (ss3) (by rw [hxl]; exact hok3.len) hx5 hrow w1 (fun p hp => hw1.own p (List.mem_append_left _ hp)) (hw1.nodup.sublist ((List.sublist_append_left _ _).map _))) rfl ?_
  rintro _ Lz ⟨Ao5, co5, Lo5, rfl, hro5, rfl⟩
  refine RL.perm (L' := RegG rb A cp Lr (((d : Nat) : Int)) xs (ss3.map (freeP ((d : Nat) : Int))) ++ (Lo5 ++ ((b9, cel 36 a.cells) :: ((bn, cel 34 (nc (ss3))) :: Lst)))) rfl (by classical exact List.perm_iff_count.2 (fun z => by simp only [List.count_append, List.count_cons, List.count_nil, List.cons_append, List.nil_append, List.set_cons_zero, List.set_cons_succ] <;> omega)) ?_
  have hfl := freedP_le ((d : Nat) : Int) ss3 xs.length
  refine RL.assign rfl ?_
  refine RL.nil ?_
  refine X.seq ?_
  refine X.region rfl ?_
  refine RL.assign rfl ?_
  refine RL.nil ?_
  refine X.block ?_
  refine X.loop (γ := Nat) (fun q ρ L => (q ≤ (freedP ((d : Nat) : Int) ss3 xs.length).length) ∧ Has ρ [(0, .int .i64 d), (1, .slice A0 l.length c0), (5, .pointer (some ⟨rb, 0, none⟩)), (7, .pointer (some ⟨bn, 0, none⟩)), (8, .int .i64 g), (12, .slice Ao5 (freedP ((d : Nat) : Int) ss3 xs.length).length co5), (13, .int .i64 q)] ∧ L = RegG rb A cp Lr (((d : Nat) : Int)) xs (ss3.map (freeP ((d : Nat) : Int))) ++ (Lo5 ++ ((b9, cel 36 a.cells) :: ((bn, cel 34 (nc (ss3))) :: Lst)))) (fun q => (freedP ((d : Nat) : Int) ss3 xs.length).length - q) (0) ⟨_, (by repeat (first | exact sb0 _ | exact sb1 _ | (rw [List.append_nil]; exact sb0 _) | exact sb2 _ _ | exact sb3 _ _ _ | apply sb4 | apply sb5 | apply sb6)), Nat.zero_le _, ⟨rfl, rfl, rfl, rfl, rfl, rfl, rfl, trivial⟩, rfl⟩ ?_
  rintro q _ _ ⟨q1, hρ, rfl⟩
  obtain ⟨base, rfl⟩ := hρ.base
  clear hρ
  refine X.seq ?_
  refine X.seq ?_
  refine X.region rfl ?_
  refine RL.move rfl ?_
  refine RL.move rfl ?_
  refine RL.len rfl sl38 rfl ?_
  refine RL.cmp_s rfl rfl rfl rfl (fun hqq => ?_) (fun hqq => ?_)
  ·replace hqq : (_ : Int) < _ := hqq
   obtain ⟨xv, hxv⟩ : ∃ xv, (freedP ((d : Nat) : Int) ss3 xs.length)[q]? = some xv := ⟨_, List.getElem?_eq_getElem (by omega)⟩
   obtain ⟨i, s3, rfl, hs3, hr3⟩ := freedP_mem hxv
   have hi2 : i < 2 := by have := (List.getElem?_eq_some_iff.1 hs3).1; rwa [hok3.len] at this
   obtain ⟨bo, jo, rfl, rfl⟩ := hro5.open (by omega)
   refine RL.nil ?_
   refine X.cond_t rfl ?_
   refine X.skip ?_
   refine X.seq ?_
   refine X.block ?_
   refine X.seq ?_
   refine X.region rfl ?_
   refine RL.move rfl ?_
   refine RL.move rfl ?_
   refine RL.indexAddr rfl sl38 rfl rfl rfl rfl (by omega) ?_
   refine RL.loadO rfl sc3 rfl (ints_app_get hxv) ?_
   refine RL.indexArr (sz := 3) rfl Try.underlying34 ag33.size rfl rfl rfl hi2 ?_
   refine RL.loadOA rfl ag33 rfl (nc_take hok3.len hs3) rfl ?_
   refine RL.bldC (vs := []) (cells := [.int .i64 0, .int .i64 0, .int .i64 0]) rfl rfl (fun w => by kernel_rfl) ?_
   refine RL.neA rfl eqg_i3 rfl rfl (eq_i3 _ _ _) (fun he3 => ?_) (fun he3 => ?_)
   ·skip
    exact absurd (restsP_iff.1 hr3).2 he3
   skip
   refine RL.nil ?_
   refine X.cond_f rfl ?_
   refine X.skip ?_
   refine X.blk ?_
   refine X.region rfl ?_
   refine RL.move rfl ?_
   refine RL.add rfl rfl rfl (by omega) ?_
   refine RL.assign rfl ?_
   refine RL.nil ?_
   refine X.hyp ⟨rfl, q + 1, by omega, _, (by repeat (first | exact sb0 _ | exact sb1 _ | (rw [List.append_nil]; exact sb0 _) | exact sb2 _ _ | exact sb3 _ _ _ | apply sb4 | apply sb5 | apply sb6)), by omega, ⟨rfl, rfl, rfl, rfl, rfl, rfl, rfl, trivial⟩, rfl⟩
  replace hqq : ¬ ((_ : Int) < _) := hqq
  refine RL.nil ?_
  refine X.cond_f rfl ?_
  refine X.exit rfl ?_
  refine X.blk ?_
  refine X.region rfl ?_
  refine RL.move rfl ?_
  refine RL.add rfl rfl rfl (by omega) ?_
  refine RL.assign rfl ?_
  refine RL.nil ?_
  refine X.hyp ⟨rfl, g + 1, by omega, _, (by rw [nc_free]; exact (List.Sublist.refl _).append (sb6 (sb5 (sb0 _)))), ss3.map (freeP ((d : Nat) : Int)), by omega, hok3.map fun s h => h.free (by omega), ⟨rfl, rfl, rfl, rfl, rfl, trivial⟩, rfl⟩
 have hok0 : SOk 200 ss := hok.mono (by omega)
 refine X.exit rfl ?_
 refine X.seq ?_
 refine X.seq ?_
 refine X.region rfl ?_
 refine RL.assign rfl ?_
 refine RL.nil ?_
 refine X.block ?_
 refine X.loop (γ := Nat) (fun m ρ L => ∃ ss1 : List Mv, (m ≤ 2) ∧ (SOk 200 ss1) ∧ (Zm m 0 ss1) ∧ Has ρ [(0, .int .i64 d), (5, .pointer (some ⟨rb, 0, none⟩)), (7, .pointer (some ⟨bn, 0, none⟩)), (14, .int .i64 m)] ∧ L = RegG rb A cp Lr (((d : Nat) : Int)) xs (ss1) ++ ((bn, cel 34 (nc (ss1))) :: Lst)) (fun m => 2 - m) (0) ⟨_, (by repeat (first | exact sb0 _ | exact sb1 _ | (rw [List.append_nil]; exact sb0 _) | exact sb2 _ _ | exact sb3 _ _ _ | apply sb4 | apply sb5 | apply sb6)), ss, Nat.zero_le _, hok0, Zm.zero _, ⟨rfl, rfl, rfl, rfl, trivial⟩, rfl⟩ ?_
 rintro m _ _ ⟨ss1, hm0, hok1, hz1, hρ, rfl⟩
 obtain ⟨base, rfl⟩ := hρ.base
 clear hρ
 refine X.seq ?_
 refine X.seq ?_
 refine X.region rfl ?_
 refine RL.move rfl ?_
 refine RL.cmp_s rfl rfl rfl rfl (fun hm => ?_) (fun hm => ?_)
 ·replace hm : (_ : Int) < _ := hm
  refine RL.nil ?_
  refine X.cond_t rfl ?_
  refine X.skip ?_
  refine X.seq ?_
  refine X.block ?_
  refine X.seq ?_
  refine X.region rfl ?_
  refine RL.assign rfl ?_
  refine RL.nil ?_
  refine X.block ?_
  refine X.loop (γ := Nat) (fun k ρ L => ∃ ss2 : List Mv, (k ≤ 3) ∧ (SOk 200 ss2) ∧ (Zm m k ss2) ∧ Has ρ [(0, .int .i64 d), (5, .pointer (some ⟨rb, 0, none⟩)), (7, .pointer (some ⟨bn, 0, none⟩)), (14, .int .i64 m), (15, .int .i64 k)] ∧ L = RegG rb A cp Lr (((d : Nat) : Int)) xs (ss2) ++ ((bn, cel 34 (nc (ss2))) :: Lst)) (fun k => 3 - k) (0) ⟨_, (by repeat (first | exact sb0 _ | exact sb1 _ | (rw [List.append_nil]; exact sb0 _) | exact sb2 _ _ | exact sb3 _ _ _ | apply sb4 | apply sb5 | apply sb6)), ss1, Nat.zero_le _, hok1, hz1, ⟨rfl, rfl, rfl, rfl, rfl, trivial⟩, rfl⟩ ?_
  rintro k _ _ ⟨ss2, hk0, hok2, hz2, hρ, rfl⟩
  obtain ⟨base, rfl⟩ := hρ.base
  clear hρ
  refine X.seq ?_
  refine X.seq ?_
  refine X.region rfl ?_
  refine RL.move rfl ?_
  refine RL.cmp_s rfl rfl rfl rfl (fun hk => ?_) (fun hk => ?_)
  ·replace hk : (_ : Int) < _ := hk
   have hk3 : k < 3 := by omega
   have hm2 : m < 2 := by omega
   obtain ⟨s2, hs2⟩ : ∃ s, ss2[m]? = some s := ⟨_, List.getElem?_eq_getElem (by rw [hok2.len]; exact hm2)⟩
   have hc2 := (hok2.get hs2).c hk3
   obtain ⟨c2, ec2⟩ : ∃ c : Nat, s2.c k = (c : Int) := ⟨(s2.c k).toNat, by omega⟩
   refine RL.nil ?_
   refine X.cond_t rfl ?_
   refine X.skip ?_
   refine X.seq ?_
   refine X.block ?_
   refine X.block ?_
   refine X.loop (γ := Nat) (fun c ρ L => ∃ ss3 : List Mv, ∃ s3 : Mv, (SOk 200 ss3) ∧ (Zm m k ss3) ∧ (ss3[m]? = some s3) ∧ (s3.c k = (c : Int)) ∧ Has ρ [(0, .int .i64 d), (5, .pointer (some ⟨rb, 0, none⟩)), (7, .pointer (some ⟨bn, 0, none⟩)), (14, .int .i64 m), (15, .int .i64 k)] ∧ L = RegG rb A cp Lr (((d : Nat) : Int)) xs (ss3) ++ ((bn, cel 34 (nc (ss3))) :: Lst)) (fun c => c) (c2) ⟨_, (by repeat (first | exact sb0 _ | exact sb1 _ | (rw [List.append_nil]; exact sb0 _) | exact sb2 _ _ | exact sb3 _ _ _ | apply sb4 | apply sb5 | apply sb6)), ss2, s2, hok2, hz2, hs2, ec2, ⟨rfl, rfl, rfl, rfl, rfl, trivial⟩, rfl⟩ ?_
   rintro c _ _ ⟨ss3, s3, hok3, hz3, hs3, ec3, hρ, rfl⟩
   obtain ⟨base, rfl⟩ := hρ.base
   clear hρ
   refine X.seq ?_
   refine X.seq ?_
   refine X.region rfl ?_
   refine RL.move rfl ?_
   refine RL.move rfl ?_
   refine RL.indexArr (sz := 3) rfl Try.underlying34 ag33.size rfl rfl rfl hm2 ?_
   refine RL.indexArr (sz := 1) rfl Try.underlying33 sc3.size rfl rfl rfl hk3 ?_
   refine RL.loadO rfl sc3 rfl (nc_get hok3.len hs3 hk3) ?_
   refine RL.cmp_s rfl rfl rfl rfl (fun hc => ?_) (fun hc => ?_)
   ·replace hc : (_ : Int) > _ := hc
    have hon := (hok3.get hs3).con hk3 hc
    have hc3 := (hok3.get hs3).c hk3
    have he : countP ss3 (m : Nat) (k : Nat) false = (0, ss3.set m (s3.put k (s3.c k - 1))) := by
      rw [countP_at hs3 hk3, if_neg (by rintro (⟨h, _⟩ | ⟨_, h⟩) <;> first | (cases h; done) | omega)]
      show (0, ss3.set m (s3.put k (w32 (s3.c k - 1)))) = _
      rw [w32_id (by omega)]
    refine RL.nil ?_
    refine X.cond_t rfl ?_
    refine X.skip ?_
    refine X.seq ?_
    refine X.block ?_
    refine X.seq ?_
    refine X.region rfl ?_
    refine RL.move rfl ?_
    refine RL.move rfl ?_
    refine RL.fn0 rfl rfl rfl en15 (fun w hw => ((f_loaded (m : Nat) rb ((d : Nat) : Int) xs ss3 w (regG_reads hw hrow (by rw [hxl]; exact hok3.len) (fun p hp => List.mem_append_left _ hp))).mono fun v L h => (by rw [h, loadedP_at hs3, hon] : v = .bool true))) rfl ?_
    rintro _ _ rfl
    refine RL.drop rfl (List.sublist_append_right _ _) ?_
    refine RL.not rfl rfl ?_
    refine RL.move rfl ?_
    refine RL.move rfl ?_
    refine RL.move rfl ?_
    refine RL.move rfl ?_
    refine RL.fn (Lp := RegG rb A cp Lr (((d : Nat) : Int)) xs (ss3)) (Lr := ((bn, cel 34 (nc (ss3))) :: Lst)) rfl rfl rfl en12 (by classical exact List.perm_iff_count.2 (fun z => by simp only [List.count_append, List.count_cons, List.count_nil, List.cons_append, List.nil_append, List.set_cons_zero, List.set_cons_succ] <;> omega)) (fun w1 hw1 => f_count (m : Nat) (k : Nat) false rb cp A Lr (((d : Nat) : Int)) xs (ss3) (by rw [hxl]; exact hok3.len) hx5 hrow w1 (fun p hp => hw1.own p (List.mem_append_left _ hp)) (hw1.nodup.sublist ((List.sublist_append_left _ _).map _))) rfl ?_
    rintro _ Lz ⟨rfl, rfl⟩
    rw [he]
    refine RL.cmp_f rfl rfl rfl rfl (by show ¬ ((_ : Int) ≠ _); exact fun h => h rfl) ?_
    refine RL.pick_f rfl rfl ?_
    refine RL.nil ?_
    refine X.cond_f rfl ?_
    refine X.skip ?_
    refine X.blk ?_
    refine X.set [.val (.int .i64 ((m : Nat) : Int)), .val (.int .i64 ((k : Nat) : Int)), .val (.pointer (some ⟨bn, 0 + m * 3, none⟩)), .val (.pointer (some ⟨bn, 0 + m * 3 + k * 1, none⟩)), .val (.int .i64 (s3.c k)), .val (.int .i64 (((s3.c k)) - (1))), .val (.pointer (some ⟨bn, 0 + m * 3, none⟩)), .val (.pointer (some ⟨bn, 0 + m * 3 + k * 1, none⟩)), .any] [[], [], [0], [0, 1, 2], [0, 1, 2, 3], [0, 1, 2, 3, 4], [0], [0, 1, 2, 3, 4, 5, 6], [0, 1, 2, 3, 4, 5, 6, 7]] (fun D ρ L => (D 8 = false ∧ True ∧ Has ρ [] ∧ L.Perm ((RegG rb A cp Lr (((d : Nat) : Int)) xs (ss3.set m (s3.put k (s3.c k - 1)))) ++ (([(bn, cel 34 (nc (ss3)))]) ++ (Lst)))) ∨ (D 8 = true ∧ True ∧ Has ρ [] ∧ L.Perm ((RegG rb A cp Lr (((d : Nat) : Int)) xs (ss3.set m (s3.put k (s3.c k - 1)))) ++ (([(bn, cel 34 ((nc ss3).set (0 + m * 3 + k * 1) (.int .i64 ((s3.c k) - (1)))))]) ++ (Lst))))) rfl (by kernel_rfl) (by kernel_rfl) (by kernel_rfl) (by kernel_rfl) (fun D hD => .inl ⟨hD 8, trivial, trivial, (List.Perm.refl _)⟩) ⟨?_, ?_, ?_, ?_, ?_, ?_, ?_, ?_, ?_, trivial⟩ ?_
    ·intro ρ L D hS
     rcases hS.sp with ⟨e8, -, hρ, hL⟩ | ⟨e8, -, hρ, hL⟩
     ·have u14 : ρ 14 = .int .i64 ((m : Nat) : Int) := hS.fix 14 (by decide)
      clear hS hρ
      obtain ⟨base, rfl⟩ := Has.base (ρ := ρ) (l := [(14, .int .i64 ((m : Nat) : Int))]) ⟨u14, trivial⟩
      clear u14
      refine RL.perm rfl hL.symm ?_
      clear hL
      refine RL.move rfl ?_
      refine RL.nil ?_
      exact ⟨rfl, ⟨_, rfl, rfl⟩, .inl ⟨e8, trivial, trivial, List.Perm.refl _⟩⟩
     exact hS.hi 8 rfl (by kernel_rfl) e8
    ·intro ρ L D hS
     rcases hS.sp with ⟨e8, -, hρ, hL⟩ | ⟨e8, -, hρ, hL⟩
     ·have u15 : ρ 15 = .int .i64 ((k : Nat) : Int) := hS.fix 15 (by decide)
      clear hS hρ
      obtain ⟨base, rfl⟩ := Has.base (ρ := ρ) (l := [(15, .int .i64 ((k : Nat) : Int))]) ⟨u15, trivial⟩
      clear u15
      refine RL.perm rfl hL.symm ?_
      clear hL
      refine RL.move rfl ?_
      refine RL.nil ?_
      exact ⟨rfl, ⟨_, rfl, rfl⟩, .inl ⟨e8, trivial, trivial, List.Perm.refl _⟩⟩
     exact hS.hi 8 rfl (by kernel_rfl) e8
    ·intro ρ L D hS
     rcases hS.sp with ⟨e8, -, hρ, hL⟩ | ⟨e8, -, hρ, hL⟩
     ·have u7 : ρ 7 = .pointer (some ⟨bn, 0, none⟩) := hS.fix 7 (by decide)
      have u110 : ρ 110 = .int .i64 ((m : Nat) : Int) := hS.dep ⟨0, Ground.data⟩ (by simp) rfl _ _ rfl rfl
      clear hS hρ
      obtain ⟨base, rfl⟩ := Has.base (ρ := ρ) (l := [(7, .pointer (some ⟨bn, 0, none⟩)), (110, .int .i64 ((m : Nat) : Int))]) ⟨u7, u110, trivial⟩
      clear u7 u110
      refine RL.perm rfl hL.symm ?_
      clear hL
      refine RL.indexArr (sz := 3) rfl Try.underlying34 ag33.size rfl rfl rfl (by omega) ?_
      refine RL.nil ?_
      exact ⟨rfl, ⟨_, rfl, rfl⟩, .inl ⟨e8, trivial, trivial, List.Perm.refl _⟩⟩
     exact hS.hi 8 rfl (by kernel_rfl) e8
    ·intro ρ L D hS
     rcases hS.sp with ⟨e8, -, hρ, hL⟩ | ⟨e8, -, hρ, hL⟩
     ·have u111 : ρ 111 = .int .i64 ((k : Nat) : Int) := hS.dep ⟨1, Ground.data⟩ (by simp) rfl _ _ rfl rfl
      have u112 : ρ 112 = .pointer (some ⟨bn, 0 + m * 3, none⟩) := hS.dep ⟨2, Ground.data⟩ (by simp) rfl _ _ rfl rfl
      clear hS hρ
      obtain ⟨base, rfl⟩ := Has.base (ρ := ρ) (l := [(111, .int .i64 ((k : Nat) : Int)), (112, .pointer (some ⟨bn, 0 + m * 3, none⟩))]) ⟨u111, u112, trivial⟩
      clear u111 u112
      refine RL.perm rfl hL.symm ?_
      clear hL
      refine RL.indexArr (sz := 1) rfl Try.underlying33 sc3.size rfl rfl rfl (by omega) ?_
      refine RL.nil ?_
      exact ⟨rfl, ⟨_, rfl, rfl⟩, .inl ⟨e8, trivial, trivial, List.Perm.refl _⟩⟩
     exact hS.hi 8 rfl (by kernel_rfl) e8
    ·intro ρ L D hS
     rcases hS.sp with ⟨e8, -, hρ, hL⟩ | ⟨e8, -, hρ, hL⟩
     ·have u113 : ρ 113 = .pointer (some ⟨bn, 0 + m * 3 + k * 1, none⟩) := hS.dep ⟨3, Ground.data⟩ (by simp) rfl _ _ rfl rfl
      clear hS hρ
      obtain ⟨base, rfl⟩ := Has.base (ρ := ρ) (l := [(113, .pointer (some ⟨bn, 0 + m * 3 + k * 1, none⟩))]) ⟨u113, trivial⟩
      clear u113
      refine RL.perm rfl hL.symm ?_
      clear hL
      refine RL.loadO rfl sc3 rfl (nc_get hok3.len hs3 hk3) ?_
      refine RL.nil ?_
      exact ⟨rfl, ⟨_, rfl, rfl⟩, .inl ⟨e8, trivial, trivial, List.Perm.refl _⟩⟩
     exact hS.hi 8 rfl (by kernel_rfl) e8
    ·intro ρ L D hS
     rcases hS.sp with ⟨e8, -, hρ, hL⟩ | ⟨e8, -, hρ, hL⟩
     ·have u114 : ρ 114 = .int .i64 (s3.c k) := hS.dep ⟨4, Ground.data⟩ (by simp) rfl _ _ rfl rfl
      clear hS hρ
      obtain ⟨base, rfl⟩ := Has.base (ρ := ρ) (l := [(114, .int .i64 (s3.c k))]) ⟨u114, trivial⟩
      clear u114
      refine RL.perm rfl hL.symm ?_
      clear hL
      refine RL.sub rfl rfl rfl (by omega) ?_
      refine RL.nil ?_
      exact ⟨rfl, ⟨_, rfl, rfl⟩, .inl ⟨e8, trivial, trivial, List.Perm.refl _⟩⟩
     exact hS.hi 8 rfl (by kernel_rfl) e8
    ·intro ρ L D hS
     rcases hS.sp with ⟨e8, -, hρ, hL⟩ | ⟨e8, -, hρ, hL⟩
     ·have u7 : ρ 7 = .pointer (some ⟨bn, 0, none⟩) := hS.fix 7 (by decide)
      have u110 : ρ 110 = .int .i64 ((m : Nat) : Int) := hS.dep ⟨0, Ground.data⟩ (by simp) rfl _ _ rfl rfl
      clear hS hρ
      obtain ⟨base, rfl⟩ := Has.base (ρ := ρ) (l := [(7, .pointer (some ⟨bn, 0, none⟩)), (110, .int .i64 ((m : Nat) : Int))]) ⟨u7, u110, trivial⟩
      clear u7 u110
      refine RL.perm rfl hL.symm ?_
      clear hL
      refine RL.indexArr (sz := 3) rfl Try.underlying34 ag33.size rfl rfl rfl (by omega) ?_
      refine RL.nil ?_
      exact ⟨rfl, ⟨_, rfl, rfl⟩, .inl ⟨e8, trivial, trivial, List.Perm.refl _⟩⟩
     exact hS.hi 8 rfl (by kernel_rfl) e8
    ·intro ρ L D hS
     rcases hS.sp with ⟨e8, -, hρ, hL⟩ | ⟨e8, -, hρ, hL⟩
     ·have u111 : ρ 111 = .int .i64 ((k : Nat) : Int) := hS.dep ⟨1, Ground.data⟩ (by simp) rfl _ _ rfl rfl
      have u116 : ρ 116 = .pointer (some ⟨bn, 0 + m * 3, none⟩) := hS.dep ⟨6, Ground.data⟩ (by simp) rfl _ _ rfl rfl
      clear hS hρ
      obtain ⟨base, rfl⟩ := Has.base (ρ := ρ) (l := [(111, .int .i64 ((k : Nat) : Int)), (116, .pointer (some ⟨bn, 0 + m * 3, none⟩))]) ⟨u111, u116, trivial⟩
      clear u111 u116
      refine RL.perm rfl hL.symm ?_
      clear hL
      refine RL.indexArr (sz := 1) rfl Try.underlying33 sc3.size rfl rfl rfl (by omega) ?_
      refine RL.nil ?_
      exact ⟨rfl, ⟨_, rfl, rfl⟩, .inl ⟨e8, trivial, trivial, List.Perm.refl _⟩⟩
     exact hS.hi 8 rfl (by kernel_rfl) e8
    ·intro ρ L D hS
     rcases hS.sp with ⟨e8, -, hρ, hL⟩ | ⟨e8, -, hρ, hL⟩
     ·have u115 : ρ 115 = .int .i64 (((s3.c k)) - (1)) := hS.dep ⟨5, Ground.data⟩ (by simp) rfl _ _ rfl rfl
      have u117 : ρ 117 = .pointer (some ⟨bn, 0 + m * 3 + k * 1, none⟩) := hS.dep ⟨7, Ground.data⟩ (by simp) rfl _ _ rfl rfl
      clear hS hρ
      obtain ⟨base, rfl⟩ := Has.base (ρ := ρ) (l := [(115, .int .i64 (((s3.c k)) - (1))), (117, .pointer (some ⟨bn, 0 + m * 3 + k * 1, none⟩))]) ⟨u115, u117, trivial⟩
      clear u115 u117
      refine RL.perm rfl hL.symm ?_
      clear hL
      refine RL.stI rfl rfl sc3.size rfl rfl (by rw [nc_len hok3.len]; omega) ?_
      refine RL.nil ?_
      exact ⟨rfl, ⟨_, rfl, trivial⟩, .inr (⟨rfl, trivial, trivial, (pmm fun _ _ z => by simp only [pm1, pm2, pm3, pm4, pm5, pm6, List.cons_append, List.nil_append] <;> omega)⟩)⟩
     exact hS.me e8
    intro ρ L D hD hT hfix hsp
    rcases hsp with ⟨e8, -, hρ, hL⟩ | ⟨e8, -, hρ, hL⟩
    ·exact done_no hD 8 rfl e8
    have u0 : ρ 0 = .int .i64 d := hfix 0 (by decide)
    have u5 : ρ 5 = .pointer (some ⟨rb, 0, none⟩) := hfix 5 (by decide)
    have u7 : ρ 7 = .pointer (some ⟨bn, 0, none⟩) := hfix 7 (by decide)
    have u14 : ρ 14 = .int .i64 ((m : Nat) : Int) := hfix 14 (by decide)
    have u15 : ρ 15 = .int .i64 ((k : Nat) : Int) := hfix 15 (by decide)
    clear hT hfix hD hρ
    obtain ⟨base, rfl⟩ := Has.base (ρ := ρ) (l := [(0, .int .i64 d), (5, .pointer (some ⟨rb, 0, none⟩)), (7, .pointer (some ⟨bn, 0, none⟩)), (14, .int .i64 ((m : Nat) : Int)), (15, .int .i64 ((k : Nat) : Int))]) ⟨u0, u5, u7, u14, u15, trivial⟩
    clear u0 u5 u7 u14 u15
    refine ⟨_, hL.symm, ((RegG rb A cp Lr (((d : Nat) : Int)) xs (ss3.set m (s3.put k (s3.c k - 1)))) ++ (([(bn, cel 34 ((nc ss3).set (0 + m * 3 + k * 1) (.int .i64 ((s3.c k) - (1)))))]) ++ (Lst))), List.Sublist.append (List.Sublist.refl _) (List.Sublist.append (List.Sublist.refl _) (List.Sublist.refl _)), ?_⟩
    refine X.hyp ⟨rfl, c - 1, by omega, _, (by rw [nc_put hok3.len hs3 hk3]; exact List.Sublist.refl _), ss3.set m (s3.put k (s3.c k - 1)), s3.put k (s3.c k - 1), hok3.set ((hok3.get hs3).put (by omega) k), hz3.put hs3 hk3 _, List.getElem?_set_self (by rw [hok3.len]; exact hm2), by rw [put_self _ _ hk3]; omega, ⟨rfl, rfl, rfl, rfl, rfl, trivial⟩, rfl⟩
   replace hc : ¬ ((_ : Int) > _) := hc
   refine RL.nil ?_
   refine X.cond_f rfl ?_
   refine X.exit rfl ?_
   refine X.blk ?_
   refine X.region rfl ?_
   refine RL.move rfl ?_
   refine RL.add rfl rfl rfl (by omega) ?_
   refine RL.assign rfl ?_
   refine RL.nil ?_
   refine X.hyp ⟨rfl, k + 1, by omega, _, (by repeat (first | exact sb0 _ | exact sb1 _ | (rw [List.append_nil]; exact sb0 _) | exact sb2 _ _ | exact sb3 _ _ _ | apply sb4 | apply sb5 | apply sb6)), ss3, by omega, hok3, hz3.step hs3 (by omega), ⟨rfl, rfl, rfl, rfl, rfl, trivial⟩, rfl⟩
  replace hk : ¬ ((_ : Int) < _) := hk
  obtain rfl : k = 3 := by omega
  refine RL.nil ?_
  refine X.cond_f rfl ?_
  refine X.exit rfl ?_
  refine X.blk ?_
  refine X.region rfl ?_
  refine RL.move rfl ?_
  refine RL.add rfl rfl rfl (by omega) ?_
  refine RL.assign rfl ?_
  refine RL.nil ?_
  refine X.hyp ⟨rfl, m + 1, by omega, _, (by repeat (first | exact sb0 _ | exact sb1 _ | (rw [List.append_nil]; exact sb0 _) | exact sb2 _ _ | exact sb3 _ _ _ | apply sb4 | apply sb5 | apply sb6)), ss2, by omega, hok2, hz2.next, ⟨rfl, rfl, rfl, rfl, trivial⟩, rfl⟩
 replace hm : ¬ ((_ : Int) < _) := hm
 obtain rfl : m = 2 := by omega
 have htk := Tk.start hok1 (hz1.all hok1.len)
 refine RL.nil ?_
 refine X.cond_f rfl ?_
 refine X.exit rfl ?_
 refine X.seq ?_
 refine X.seq ?_
 refine X.region rfl ?_
 refine RL.assign rfl ?_
 refine RL.nil ?_
 refine X.block ?_
 refine X.loop (γ := Nat) (fun i ρ L => ∃ ss2 : List Mv, (i ≤ d) ∧ (ss2.length = 2) ∧ (∀ s ∈ ss2, Tk i s) ∧ Has ρ [(0, .int .i64 d), (5, .pointer (some ⟨rb, 0, none⟩)), (16, .int .i64 i)] ∧ L = RegG rb A cp Lr (((d : Nat) : Int)) xs (ss2) ++ ((bn, cel 34 (nc (ss1))) :: Lst)) (fun i => d - i) (0) ⟨_, (by repeat (first | exact sb0 _ | exact sb1 _ | (rw [List.append_nil]; exact sb0 _) | exact sb2 _ _ | exact sb3 _ _ _ | apply sb4 | apply sb5 | apply sb6)), ss1, Nat.zero_le _, hok1.len, htk, ⟨rfl, rfl, rfl, trivial⟩, rfl⟩ ?_
 rintro i _ _ ⟨ss2, hi0, hl2, htk2, hρ, rfl⟩
 obtain ⟨base, rfl⟩ := hρ.base
 clear hρ
 refine X.seq ?_
 refine X.seq ?_
 refine X.region rfl ?_
 refine RL.move rfl ?_
 refine RL.move rfl ?_
 refine RL.cmp_s rfl rfl rfl rfl (fun hi => ?_) (fun hi => ?_)
 ·replace hi : (_ : Int) < _ := hi
  refine RL.nil ?_
  refine X.cond_t rfl ?_
  refine X.skip ?_
  refine X.seq ?_
  refine X.block ?_
  refine X.region rfl ?_
  refine RL.move rfl ?_
  refine RL.fn (Lp := RegG rb A cp Lr (((d : Nat) : Int)) xs (ss2)) (Lr := ((bn, cel 34 (nc (ss1))) :: Lst)) rfl rfl rfl en13 (by classical exact List.perm_iff_count.2 (fun z => by simp only [List.count_append, List.count_cons, List.count_nil, List.cons_append, List.nil_append, List.set_cons_zero, List.set_cons_succ] <;> omega)) (fun w1 hw1 => f_tick rb cp A Lr (((d : Nat) : Int)) xs (ss2) (by rw [hxl]; exact hl2) hx5 hrow w1 (fun p hp => hw1.own p (List.mem_append_left _ hp)) (hw1.nodup.sublist ((List.sublist_append_left _ _).map _))) rfl ?_
  rintro _ Lz ⟨rfl, rfl⟩
  skip
  refine RL.nil ?_
  refine X.blk ?_
  refine X.region rfl ?_
  refine RL.move rfl ?_
  refine RL.add rfl rfl rfl (by omega) ?_
  refine RL.assign rfl ?_
  refine RL.nil ?_
  refine X.hyp ⟨rfl, i + 1, by omega, _, (by repeat (first | exact sb0 _ | exact sb1 _ | (rw [List.append_nil]; exact sb0 _) | exact sb2 _ _ | exact sb3 _ _ _ | apply sb4 | apply sb5 | apply sb6)), ss2.map tickP, by omega, by rw [List.length_map]; exact hl2, fun s hs => by obtain ⟨s0, h0, rfl⟩ := List.mem_map.1 hs; exact (htk2 s0 h0).tick (by omega), ⟨rfl, rfl, rfl, trivial⟩, rfl⟩
 replace hi : ¬ ((_ : Int) < _) := hi
 obtain rfl : i = d := by omega
 refine RL.nil ?_
 refine X.cond_f rfl ?_
 refine X.exit rfl ?_
 refine X.seq ?_
 refine X.region rfl ?_
 refine RL.move rfl ?_
 refine RL.fn (Lp := RegG rb A cp Lr (((i : Nat) : Int)) xs (ss2)) (Lr := ((bn, cel 34 (nc (ss1))) :: Lst)) rfl rfl rfl en14 (by classical exact List.perm_iff_count.2 (fun z => by simp only [List.count_append, List.count_cons, List.count_nil, List.cons_append, List.nil_append, List.set_cons_zero, List.set_cons_succ] <;> omega)) (fun w1 hw1 => f_free rb cp A Lr (((i : Nat) : Int)) xs (ss2) (by rw [hxl]; exact hl2) hx5 hrow w1 (fun p hp => hw1.own p (List.mem_append_left _ hp)) (hw1.nodup.sublist ((List.sublist_append_left _ _).map _))) rfl ?_
 rintro _ Lz ⟨Ao7, co7, Lo7, rfl, hro7, rfl⟩
 refine RL.perm (L' := RegG rb A cp Lr (((i : Nat) : Int)) xs (ss2.map (freeP ((i : Nat) : Int))) ++ (Lo7 ++ ((bn, cel 34 (nc (ss1))) :: Lst))) rfl (by classical exact List.perm_iff_count.2 (fun z => by simp only [List.count_append, List.count_cons, List.count_nil, List.cons_append, List.nil_append, List.set_cons_zero, List.set_cons_succ] <;> omega)) ?_
 refine RL.nil ?_
 refine X.seq ?_
 refine X.region rfl ?_
 refine RL.move rfl ?_
 refine RL.fn0 rfl rfl rfl en15 (fun w hw => ((f_loaded 0 rb ((i : Nat) : Int) xs (ss2.map (freeP ((i : Nat) : Int))) w (regG_reads hw hrow (by rw [hxl, List.length_map]; exact hl2) (fun p hp => List.mem_append_left _ hp))).mono fun v L h => (by rw [h, gone htk2] : v = .bool false))) rfl ?_
 rintro _ _ rfl
 refine RL.drop rfl (List.sublist_append_right _ _) ?_
 refine RL.not rfl rfl ?_
 refine RL.move rfl ?_
 refine RL.move rfl ?_
 refine RL.fn0 rfl rfl rfl en15 (fun w hw => ((f_loaded 1 rb ((i : Nat) : Int) xs (ss2.map (freeP ((i : Nat) : Int))) w (regG_reads hw hrow (by rw [hxl, List.length_map]; exact hl2) (fun p hp => List.mem_append_left _ hp))).mono fun v L h => (by rw [h, gone htk2] : v = .bool false))) rfl ?_
 rintro _ _ rfl
 refine RL.drop rfl (List.sublist_append_right _ _) ?_
 refine RL.not rfl rfl ?_
 refine RL.pick_t rfl rfl ?_
 refine RL.move rfl ?_
 refine RL.fn0 rfl rfl rfl en16 (fun w hw => (f_awake w)) rfl ?_
 rintro _ _ rfl
 refine RL.drop rfl (List.sublist_append_right _ _) ?_
 refine RL.pick_t rfl rfl ?_
 refine RL.assign rfl ?_
 refine RL.nil ?_
 refine X.ret ?_
 exact ret1 rfl rfl
end Go.Proofs.Ytnebpklmbefmfaa

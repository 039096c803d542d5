/- Next: the frame goes on till it stops. -/
import Derived.Test.YtekepfpkihnodaaA7
set_option linter.unusedVariables false
set_option linter.unusedSimpArgs false
namespace Go.Proofs.Ytekepfpkihnodaa
open Go.RowKit
attribute [local irreducible] X RL W Ctr
set_option maxHeartbeats 2000000 in
set_option maxRecDepth 20000 in
theorem f_next (l : List Ins) (hv : Valid l 8) (arg r v : Int) (s : Fr) (hok : FrOk l s) (A : Option Addr) (c : Nat) (bb oo : Nat) (fb : Nat) (A2 : Option Addr) (cp2 : Nat) (Lr : List Ent) (hrow : Row 2 1 (.slice A2 s.st.length cp2) (ints s.st) Lr) (hst8 : s.st.length ≤ 8) (w : World) (hown : ∀ p ∈ Lr ++ [(fb, cel 53 [.slice A l.length c, .int .i64 arg, .int .i64 s.pc, .slice A2 s.st.length cp2, .bool s.calls, .bool s.over])], w.heap[p.1]? = some p.2) (hnd : (keys (Lr ++ [(fb, cel 53 [.slice A l.length c, .int .i64 arg, .int .i64 s.pc, .slice A2 s.st.length cp2, .bool s.calls, .bool s.over])])).Nodup) (hA : 0 < l.length → A = some ⟨bb, oo, none⟩) (hc : CellsAt w bb oo (icells l)) (hbb : bb ∉ keys (Lr ++ [(fb, cel 53 [.slice A l.length c, .int .i64 arg, .int .i64 s.pc, .slice A2 s.st.length cp2, .bool s.calls, .bool s.over])])) :
    Ctr Try.prog 9 [.pointer (some ⟨fb, 0, none⟩), .int .i64 r, .int .i64 v] w (Lr ++ [(fb, cel 53 [.slice A l.length c, .int .i64 arg, .int .i64 s.pc, .slice A2 s.st.length cp2, .bool s.calls, .bool s.over])]) fun val L => val = .tuple #[.agg (nextP l arg r v s).1.cells.toArray, .int .i64 (nextP l arg r v s).2.1] ∧ ∃ A3 cp3 Lr3, Row 2 1 (.slice A3 ((nextP l arg r v s).2.2.st).length cp3) (ints ((nextP l arg r v s).2.2.st)) Lr3 ∧ (Lr3 ++ [(fb, cel 53 [.slice A l.length c, .int .i64 arg, .int .i64 (nextP l arg r v s).2.2.pc, .slice A3 (nextP l arg r v s).2.2.st.length cp3, .bool (nextP l arg r v s).2.2.calls, .bool (nextP l arg r v s).2.2.over])]).Sublist L := by
  have hl := hv.len
  have hpc := hok.pc
  obtain ⟨pc, st, calls, over⟩ := s
  dsimp only at *
  cases over
  · have hwk : Wk l (opened r ⟨pc, st, calls, false⟩) := hok.wk rfl r
    have hnp : nextP l arg r v ⟨pc, st, calls, false⟩ = runN l arg l.length v (opened r ⟨pc, st, calls, false⟩) := nextP_at rfl
    refine Ctr.intro (n := 144) Try.func9 rfl Try.ntmps9 (Nat.le_of_ble_eq_true rfl) hown hnd ?_
    refine X.seq ?_
    refine X.region rfl ?_
    refine RL.alloc rfl rfl zt30 ?_
    intro b6 hb6
    dsimp only at hb6
    refine RL.perm (L' := Lr ++ [(fb, cel 53 [.slice A l.length c, .int .i64 arg, .int .i64 (pc : Nat), .slice A2 st.length cp2, .bool calls, .bool false]), (b6, cel 30 (⟨0, 0, 0, 0, 0⟩ : Ev).cells)]) rfl (perm_last _ _ _) ?_
    refine RL.assign rfl ?_
    refine RL.nil ?_
    refine X.scope rfl ?_
    refine X.seq ?_
    refine X.seq ?_
    refine X.region rfl ?_
    refine RL.move rfl ?_
    refine RL.eqP rfl Try.underlying22 rfl rfl rfl ?_
    refine RL.move rfl ?_
    refine RL.move rfl ?_
    refine RL.nilCheck rfl rfl ?_
    refine RL.fieldAddr rfl fd53_5 rfl ?_
    refine RL.loadO rfl sc4 rfl rfl ?_
    refine RL.pick_f rfl rfl ?_
    refine RL.nil ?_
    refine X.cond_f rfl ?_
    refine X.skip ?_
    refine X.seq ?_
    refine X.seq ?_
    refine X.region rfl ?_
    refine RL.move rfl ?_
    refine RL.nilCheck rfl rfl ?_
    refine RL.fieldAddr rfl fd53_4 rfl ?_
    refine RL.loadO rfl sc4 rfl rfl ?_
    refine RL.nil ?_
    refine X.cut (fun ρ ds L => ds = [] ∧ ∃ A3 cp3 Lr3, Row 2 1 (.slice A3 ((opened r ⟨pc, st, calls, false⟩).st).length cp3) (ints ((opened r ⟨pc, st, calls, false⟩).st)) Lr3 ∧ Has ρ [(0, .pointer (some ⟨fb, 0, none⟩)), (2, .int .i64 v), (6, .pointer (some ⟨b6, 0, none⟩))] ∧ L = Lr3 ++ [(fb, cel 53 [.slice A l.length c, .int .i64 arg, .int .i64 (opened r ⟨pc, st, calls, false⟩).pc, .slice A3 ((opened r ⟨pc, st, calls, false⟩).st).length cp3, .bool false, .bool false]), (b6, cel 30 (⟨0, 0, 0, 0, 0⟩ : Ev).cells)]) ?_ ?_
    · cases calls
      · refine X.cond_f rfl ?_
        refine X.skip ?_
        exact X.hyp ⟨rfl, A2, cp2, Lr, hrow, ⟨rfl, rfl, rfl, trivial⟩, rfl⟩
      · refine X.cond_t rfl ?_
        refine X.seq ?_
        refine X.region rfl ?_
        refine RL.move rfl ?_
        refine RL.move rfl ?_
        refine RL.fn (Lp := Lr ++ [(fb, cel 53 [.slice A l.length c, .int .i64 arg, .int .i64 (pc : Nat), .slice A2 st.length cp2, .bool true, .bool false])]) (Lr := [(b6, cel 30 (⟨0, 0, 0, 0, 0⟩ : Ev).cells)]) rfl rfl rfl en19 (by classical exact List.perm_iff_count.2 (fun z => by simp only [List.count_append, List.count_cons, List.count_nil, List.cons_append, List.nil_append, List.set_cons_zero, List.set_cons_succ] <;> omega)) (fun w1 hw1 => f_lay fb (.slice A l.length c) (.int .i64 arg) (.int .i64 (pc : Nat)) (.bool true) (.bool false) (st) A2 cp2 (Lr) hrow (by simp only [List.length_append, List.length_dropLast, List.length_cons, List.length_nil] at *; omega) (r) w1 (fun p hp => hw1.own p (List.mem_append_left _ hp)) (hw1.nodup.sublist ((List.sublist_append_left _ _).map _))) rfl ?_
        rintro _ _ ⟨rfl, A4, cp4, Lr4, hr4, hs4⟩
        refine RL.drop (L' := Lr4 ++ ((fb, cel 53 [.slice A l.length c, .int .i64 arg, .int .i64 (pc : Nat), .slice A4 (st ++ [r]).length cp4, .bool true, .bool false]) :: [(b6, cel 30 (⟨0, 0, 0, 0, 0⟩ : Ev).cells)])) rfl ?_ ?_
        · have := hs4.append (List.Sublist.refl ([(b6, cel 30 (⟨0, 0, 0, 0, 0⟩ : Ev).cells)]))
          rwa [List.append_assoc] at this
        refine RL.nil ?_
        refine X.region rfl ?_
        refine RL.move rfl ?_
        refine RL.nilCheck rfl rfl ?_
        refine RL.fieldAddr rfl fd53_4 rfl ?_
        refine RL.stB rfl rfl sc4.size rfl rfl (by first | exact Nat.zero_lt_one | decide | simp) ?_
        refine RL.nil ?_
        refine X.hyp ⟨rfl, A4, cp4, Lr4, hr4, ⟨rfl, rfl, rfl, trivial⟩, rfl⟩
    · rintro _ _ _ ⟨rfl, A3, cp3, Lr3, hr3, hρ, rfl⟩
      obtain ⟨base, rfl⟩ := hρ.base
      clear hρ hrow hown hnd
      refine X.seq ?_
      refine X.label ?_
      refine X.seq ?_
      refine X.block ?_
      refine X.loop (γ := Nat) (fun g ρ L => ∃ u : Int, ∃ t : Fr, ∃ A4 : Option Addr, ∃ cp4 : Nat, ∃ Lr4 : List Ent, (l.length ≤ g + t.pc) ∧ (Wk l t) ∧ (runN l arg g u t = nextP l arg r v ⟨pc, st, calls, false⟩) ∧ (Row 2 1 (.slice A4 t.st.length cp4) (ints t.st) Lr4) ∧ Has ρ [(0, .pointer (some ⟨fb, 0, none⟩)), (2, .int .i64 u), (6, .pointer (some ⟨b6, 0, none⟩))] ∧ L = Lr4 ++ [(fb, cel 53 [.slice A l.length c, .int .i64 arg, .int .i64 t.pc, .slice A4 t.st.length cp4, .bool false, .bool false]), (b6, cel 30 (⟨0, 0, 0, 0, 0⟩ : Ev).cells)]) (fun g => g) (l.length) ⟨_, (by repeat (first | exact List.Sublist.refl _ | exact List.nil_sublist _ | (rw [List.append_nil]; exact List.Sublist.refl _) | exact List.sublist_append_left _ _ | exact (List.sublist_append_left _ _).trans (List.sublist_append_left _ _) | apply List.Sublist.cons_cons | apply List.Sublist.cons | refine List.Sublist.trans ?_ (List.sublist_append_right _ _))), v, (opened r ⟨pc, st, calls, false⟩), A3, cp3, Lr3, by omega, hwk, hnp.symm, hr3, ⟨rfl, rfl, rfl, trivial⟩, rfl⟩ ?_
      rintro g _ _ ⟨u, t, A4, cp4, Lr4, hg, hwk2, hrun, hr4, hρ, rfl⟩
      obtain ⟨base, rfl⟩ := hρ.base
      clear hρ
      clear hr3
      have htp := hwk2.lt
      obtain ⟨m, rfl⟩ : ∃ m, g = m + 1 := ⟨g - 1, by omega⟩
      obtain ⟨x, hx⟩ := hwk2.at hv
      have hx1 := hx.op1
      have hx2 := hx.op2
      have htk := hx.tk
      have hdeep := hx.deep
      have hnx := hx.nxt
      have hl32 := hx.l32
      refine X.block ?_
      refine X.seq ?_
      refine X.set [.val (.pointer (some ⟨fb, 0, none⟩)), .val (.pointer (some ⟨fb, 0, none⟩)), .val (.pointer (some ⟨fb, 0 + 0, none⟩)), .val (.slice A l.length c), .val (.pointer (some ⟨fb, 0, none⟩)), .val (.pointer (some ⟨fb, 0, none⟩)), .val (.pointer (some ⟨fb, 0 + 2, none⟩)), .val (.int .i64 t.pc), .val (.pointer (some ⟨bb, oo + t.pc * 3, none⟩)), .val (.agg x.cells.toArray), .any, .any] [[], [0], [0, 1], [0, 1, 2], [], [4], [4, 5], [4, 5, 6], [0, 1, 2, 3, 4, 5, 6, 7], [0, 1, 2, 3, 4, 5, 6, 7, 8], [], [0, 1, 2, 3, 4, 5, 6, 7, 8, 9, 10]] (fun D ρ L => (D 10 = false ∧ D 11 = false ∧ True ∧ Has ρ [] ∧ L.Perm ((Lr4) ++ (([(fb, cel 53 [.slice A l.length c, .int .i64 arg, .int .i64 t.pc, .slice A4 t.st.length cp4, .bool false, .bool false])]) ++ ([(b6, cel 30 (⟨0, 0, 0, 0, 0⟩ : Ev).cells)])))) ∨ (D 10 = true ∧ D 11 = false ∧ True ∧ ∃ b8 : Nat, Has ρ [(8, .pointer (some ⟨b8, 0, none⟩))] ∧ L.Perm ((Lr4) ++ (([(fb, cel 53 [.slice A l.length c, .int .i64 arg, .int .i64 t.pc, .slice A4 t.st.length cp4, .bool false, .bool false])]) ++ (([(b6, cel 30 (⟨0, 0, 0, 0, 0⟩ : Ev).cells)]) ++ ([(b8, cel 27 [.int .i64 0, .int .i64 0, .int .i64 0])]))))) ∨ (D 10 = true ∧ D 11 = true ∧ True ∧ ∃ b8 : Nat, Has ρ [(8, .pointer (some ⟨b8, 0, none⟩))] ∧ L.Perm ((Lr4) ++ (([(fb, cel 53 [.slice A l.length c, .int .i64 arg, .int .i64 t.pc, .slice A4 t.st.length cp4, .bool false, .bool false])]) ++ (([(b6, cel 30 (⟨0, 0, 0, 0, 0⟩ : Ev).cells)]) ++ ([(b8, cel 27 x.cells)])))))) rfl (by kernel_rfl) (by kernel_rfl) (by kernel_rfl) (by kernel_rfl) (fun D hD => .inl ⟨hD 10, hD 11, trivial, trivial, (List.Perm.refl _)⟩) ⟨?_, ?_, ?_, ?_, ?_, ?_, ?_, ?_, ?_, ?_, ?_, ?_, trivial⟩ ?_
      · intro ρ L D hS
        rcases hS.sp with ⟨e10, e11, -, hρ, hL⟩ | ⟨e10, e11, -, b8, hρ, hL⟩ | ⟨e10, e11, -, b8, hρ, hL⟩
        · have u0 : ρ 0 = .pointer (some ⟨fb, 0, none⟩) := hS.fix 0 (by decide)
          clear hS hρ
          obtain ⟨base, rfl⟩ := Has.base (ρ := ρ) (l := [(0, .pointer (some ⟨fb, 0, none⟩))]) ⟨u0, trivial⟩
          clear u0
          refine RL.perm (L' := ((Lr4) ++ (([(fb, cel 53 [.slice A l.length c, .int .i64 arg, .int .i64 t.pc, .slice A4 t.st.length cp4, .bool false, .bool false])]) ++ ([(b6, cel 30 (⟨0, 0, 0, 0, 0⟩ : Ev).cells)])))) rfl hL.symm ?_
          clear hL
          refine RL.move rfl ?_
          refine RL.nil ?_
          exact ⟨rfl, ⟨_, rfl, rfl⟩, .inl ⟨e10, e11, trivial, trivial, List.Perm.refl _⟩⟩
        · have u0 : ρ 0 = .pointer (some ⟨fb, 0, none⟩) := hS.fix 0 (by decide)
          have u8 : ρ 8 = .pointer (some ⟨b8, 0, none⟩) := hρ.1
          clear hS hρ
          obtain ⟨base, rfl⟩ := Has.base (ρ := ρ) (l := [(0, .pointer (some ⟨fb, 0, none⟩)), (8, .pointer (some ⟨b8, 0, none⟩))]) ⟨u0, u8, trivial⟩
          clear u0 u8
          refine RL.perm (L' := ((Lr4) ++ (([(fb, cel 53 [.slice A l.length c, .int .i64 arg, .int .i64 t.pc, .slice A4 t.st.length cp4, .bool false, .bool false])]) ++ (([(b6, cel 30 (⟨0, 0, 0, 0, 0⟩ : Ev).cells)]) ++ ([(b8, cel 27 [.int .i64 0, .int .i64 0, .int .i64 0])]))))) rfl hL.symm ?_
          clear hL
          refine RL.move rfl ?_
          refine RL.nil ?_
          exact ⟨rfl, ⟨_, rfl, rfl⟩, .inr (.inl ⟨e10, e11, trivial, b8, ⟨rfl, trivial⟩, List.Perm.refl _⟩)⟩
        · exact hS.hi 11 rfl (by kernel_rfl) e11
      · intro ρ L D hS
        rcases hS.sp with ⟨e10, e11, -, hρ, hL⟩ | ⟨e10, e11, -, b8, hρ, hL⟩ | ⟨e10, e11, -, b8, hρ, hL⟩
        · have u30 : ρ 30 = .pointer (some ⟨fb, 0, none⟩) := hS.dep ⟨0, Ground.data⟩ (by simp) rfl _ _ rfl rfl
          clear hS hρ
          obtain ⟨base, rfl⟩ := Has.base (ρ := ρ) (l := [(30, .pointer (some ⟨fb, 0, none⟩))]) ⟨u30, trivial⟩
          clear u30
          refine RL.perm (L' := ((Lr4) ++ (([(fb, cel 53 [.slice A l.length c, .int .i64 arg, .int .i64 t.pc, .slice A4 t.st.length cp4, .bool false, .bool false])]) ++ ([(b6, cel 30 (⟨0, 0, 0, 0, 0⟩ : Ev).cells)])))) rfl hL.symm ?_
          clear hL
          refine RL.nilCheck rfl rfl ?_
          refine RL.nil ?_
          exact ⟨rfl, ⟨_, rfl, rfl⟩, .inl ⟨e10, e11, trivial, trivial, List.Perm.refl _⟩⟩
        · have u8 : ρ 8 = .pointer (some ⟨b8, 0, none⟩) := hρ.1
          have u30 : ρ 30 = .pointer (some ⟨fb, 0, none⟩) := hS.dep ⟨0, Ground.data⟩ (by simp) rfl _ _ rfl rfl
          clear hS hρ
          obtain ⟨base, rfl⟩ := Has.base (ρ := ρ) (l := [(8, .pointer (some ⟨b8, 0, none⟩)), (30, .pointer (some ⟨fb, 0, none⟩))]) ⟨u8, u30, trivial⟩
          clear u8 u30
          refine RL.perm (L' := ((Lr4) ++ (([(fb, cel 53 [.slice A l.length c, .int .i64 arg, .int .i64 t.pc, .slice A4 t.st.length cp4, .bool false, .bool false])]) ++ (([(b6, cel 30 (⟨0, 0, 0, 0, 0⟩ : Ev).cells)]) ++ ([(b8, cel 27 [.int .i64 0, .int .i64 0, .int .i64 0])]))))) rfl hL.symm ?_
          clear hL
          refine RL.nilCheck rfl rfl ?_
          refine RL.nil ?_
          exact ⟨rfl, ⟨_, rfl, rfl⟩, .inr (.inl ⟨e10, e11, trivial, b8, ⟨rfl, trivial⟩, List.Perm.refl _⟩)⟩
        · exact hS.hi 11 rfl (by kernel_rfl) e11
      · intro ρ L D hS
        rcases hS.sp with ⟨e10, e11, -, hρ, hL⟩ | ⟨e10, e11, -, b8, hρ, hL⟩ | ⟨e10, e11, -, b8, hρ, hL⟩
        · have u31 : ρ 31 = .pointer (some ⟨fb, 0, none⟩) := hS.dep ⟨1, Ground.data⟩ (by simp) rfl _ _ rfl rfl
          clear hS hρ
          obtain ⟨base, rfl⟩ := Has.base (ρ := ρ) (l := [(31, .pointer (some ⟨fb, 0, none⟩))]) ⟨u31, trivial⟩
          clear u31
          refine RL.perm (L' := ((Lr4) ++ (([(fb, cel 53 [.slice A l.length c, .int .i64 arg, .int .i64 t.pc, .slice A4 t.st.length cp4, .bool false, .bool false])]) ++ ([(b6, cel 30 (⟨0, 0, 0, 0, 0⟩ : Ev).cells)])))) rfl hL.symm ?_
          clear hL
          refine RL.fieldAddr rfl fd53_0 rfl ?_
          refine RL.nil ?_
          exact ⟨rfl, ⟨_, rfl, rfl⟩, .inl ⟨e10, e11, trivial, trivial, List.Perm.refl _⟩⟩
        · have u8 : ρ 8 = .pointer (some ⟨b8, 0, none⟩) := hρ.1
          have u31 : ρ 31 = .pointer (some ⟨fb, 0, none⟩) := hS.dep ⟨1, Ground.data⟩ (by simp) rfl _ _ rfl rfl
          clear hS hρ
          obtain ⟨base, rfl⟩ := Has.base (ρ := ρ) (l := [(8, .pointer (some ⟨b8, 0, none⟩)), (31, .pointer (some ⟨fb, 0, none⟩))]) ⟨u8, u31, trivial⟩
          clear u8 u31
          refine RL.perm (L' := ((Lr4) ++ (([(fb, cel 53 [.slice A l.length c, .int .i64 arg, .int .i64 t.pc, .slice A4 t.st.length cp4, .bool false, .bool false])]) ++ (([(b6, cel 30 (⟨0, 0, 0, 0, 0⟩ : Ev).cells)]) ++ ([(b8, cel 27 [.int .i64 0, .int .i64 0, .int .i64 0])]))))) rfl hL.symm ?_
          clear hL
          refine RL.fieldAddr rfl fd53_0 rfl ?_
          refine RL.nil ?_
          exact ⟨rfl, ⟨_, rfl, rfl⟩, .inr (.inl ⟨e10, e11, trivial, b8, ⟨rfl, trivial⟩, List.Perm.refl _⟩)⟩
        · exact hS.hi 11 rfl (by kernel_rfl) e11
      · intro ρ L D hS
        rcases hS.sp with ⟨e10, e11, -, hρ, hL⟩ | ⟨e10, e11, -, b8, hρ, hL⟩ | ⟨e10, e11, -, b8, hρ, hL⟩
        · have u32 : ρ 32 = .pointer (some ⟨fb, 0 + 0, none⟩) := hS.dep ⟨2, Ground.data⟩ (by simp) rfl _ _ rfl rfl
          clear hS hρ
          obtain ⟨base, rfl⟩ := Has.base (ρ := ρ) (l := [(32, .pointer (some ⟨fb, 0 + 0, none⟩))]) ⟨u32, trivial⟩
          clear u32
          refine RL.perm (L' := ((Lr4) ++ (([(fb, cel 53 [.slice A l.length c, .int .i64 arg, .int .i64 t.pc, .slice A4 t.st.length cp4, .bool false, .bool false])]) ++ ([(b6, cel 30 (⟨0, 0, 0, 0, 0⟩ : Ev).cells)])))) rfl hL.symm ?_
          clear hL
          refine RL.loadO rfl sc28 rfl rfl ?_
          refine RL.nil ?_
          exact ⟨rfl, ⟨_, rfl, rfl⟩, .inl ⟨e10, e11, trivial, trivial, List.Perm.refl _⟩⟩
        · have u8 : ρ 8 = .pointer (some ⟨b8, 0, none⟩) := hρ.1
          have u32 : ρ 32 = .pointer (some ⟨fb, 0 + 0, none⟩) := hS.dep ⟨2, Ground.data⟩ (by simp) rfl _ _ rfl rfl
          clear hS hρ
          obtain ⟨base, rfl⟩ := Has.base (ρ := ρ) (l := [(8, .pointer (some ⟨b8, 0, none⟩)), (32, .pointer (some ⟨fb, 0 + 0, none⟩))]) ⟨u8, u32, trivial⟩
          clear u8 u32
          refine RL.perm (L' := ((Lr4) ++ (([(fb, cel 53 [.slice A l.length c, .int .i64 arg, .int .i64 t.pc, .slice A4 t.st.length cp4, .bool false, .bool false])]) ++ (([(b6, cel 30 (⟨0, 0, 0, 0, 0⟩ : Ev).cells)]) ++ ([(b8, cel 27 [.int .i64 0, .int .i64 0, .int .i64 0])]))))) rfl hL.symm ?_
          clear hL
          refine RL.loadO rfl sc28 rfl rfl ?_
          refine RL.nil ?_
          exact ⟨rfl, ⟨_, rfl, rfl⟩, .inr (.inl ⟨e10, e11, trivial, b8, ⟨rfl, trivial⟩, List.Perm.refl _⟩)⟩
        · exact hS.hi 11 rfl (by kernel_rfl) e11
      · intro ρ L D hS
        rcases hS.sp with ⟨e10, e11, -, hρ, hL⟩ | ⟨e10, e11, -, b8, hρ, hL⟩ | ⟨e10, e11, -, b8, hρ, hL⟩
        · have u0 : ρ 0 = .pointer (some ⟨fb, 0, none⟩) := hS.fix 0 (by decide)
          clear hS hρ
          obtain ⟨base, rfl⟩ := Has.base (ρ := ρ) (l := [(0, .pointer (some ⟨fb, 0, none⟩))]) ⟨u0, trivial⟩
          clear u0
          refine RL.perm (L' := ((Lr4) ++ (([(fb, cel 53 [.slice A l.length c, .int .i64 arg, .int .i64 t.pc, .slice A4 t.st.length cp4, .bool false, .bool false])]) ++ ([(b6, cel 30 (⟨0, 0, 0, 0, 0⟩ : Ev).cells)])))) rfl hL.symm ?_
          clear hL
          refine RL.move rfl ?_
          refine RL.nil ?_
          exact ⟨rfl, ⟨_, rfl, rfl⟩, .inl ⟨e10, e11, trivial, trivial, List.Perm.refl _⟩⟩
        · have u0 : ρ 0 = .pointer (some ⟨fb, 0, none⟩) := hS.fix 0 (by decide)
          have u8 : ρ 8 = .pointer (some ⟨b8, 0, none⟩) := hρ.1
          clear hS hρ
          obtain ⟨base, rfl⟩ := Has.base (ρ := ρ) (l := [(0, .pointer (some ⟨fb, 0, none⟩)), (8, .pointer (some ⟨b8, 0, none⟩))]) ⟨u0, u8, trivial⟩
          clear u0 u8
          refine RL.perm (L' := ((Lr4) ++ (([(fb, cel 53 [.slice A l.length c, .int .i64 arg, .int .i64 t.pc, .slice A4 t.st.length cp4, .bool false, .bool false])]) ++ (([(b6, cel 30 (⟨0, 0, 0, 0, 0⟩ : Ev).cells)]) ++ ([(b8, cel 27 [.int .i64 0, .int .i64 0, .int .i64 0])]))))) rfl hL.symm ?_
          clear hL
          refine RL.move rfl ?_
          refine RL.nil ?_
          exact ⟨rfl, ⟨_, rfl, rfl⟩, .inr (.inl ⟨e10, e11, trivial, b8, ⟨rfl, trivial⟩, List.Perm.refl _⟩)⟩
        · exact hS.hi 11 rfl (by kernel_rfl) e11
      · intro ρ L D hS
        rcases hS.sp with ⟨e10, e11, -, hρ, hL⟩ | ⟨e10, e11, -, b8, hρ, hL⟩ | ⟨e10, e11, -, b8, hρ, hL⟩
        · have u34 : ρ 34 = .pointer (some ⟨fb, 0, none⟩) := hS.dep ⟨4, Ground.data⟩ (by simp) rfl _ _ rfl rfl
          clear hS hρ
          obtain ⟨base, rfl⟩ := Has.base (ρ := ρ) (l := [(34, .pointer (some ⟨fb, 0, none⟩))]) ⟨u34, trivial⟩
          clear u34
          refine RL.perm (L' := ((Lr4) ++ (([(fb, cel 53 [.slice A l.length c, .int .i64 arg, .int .i64 t.pc, .slice A4 t.st.length cp4, .bool false, .bool false])]) ++ ([(b6, cel 30 (⟨0, 0, 0, 0, 0⟩ : Ev).cells)])))) rfl hL.symm ?_
          clear hL
          refine RL.nilCheck rfl rfl ?_
          refine RL.nil ?_
          exact ⟨rfl, ⟨_, rfl, rfl⟩, .inl ⟨e10, e11, trivial, trivial, List.Perm.refl _⟩⟩
        · have u8 : ρ 8 = .pointer (some ⟨b8, 0, none⟩) := hρ.1
          have u34 : ρ 34 = .pointer (some ⟨fb, 0, none⟩) := hS.dep ⟨4, Ground.data⟩ (by simp) rfl _ _ rfl rfl
          clear hS hρ
          obtain ⟨base, rfl⟩ := Has.base (ρ := ρ) (l := [(8, .pointer (some ⟨b8, 0, none⟩)), (34, .pointer (some ⟨fb, 0, none⟩))]) ⟨u8, u34, trivial⟩
          clear u8 u34
          refine RL.perm (L' := ((Lr4) ++ (([(fb, cel 53 [.slice A l.length c, .int .i64 arg, .int .i64 t.pc, .slice A4 t.st.length cp4, .bool false, .bool false])]) ++ (([(b6, cel 30 (⟨0, 0, 0, 0, 0⟩ : Ev).cells)]) ++ ([(b8, cel 27 [.int .i64 0, .int .i64 0, .int .i64 0])]))))) rfl hL.symm ?_
          clear hL
          refine RL.nilCheck rfl rfl ?_
          refine RL.nil ?_
          exact ⟨rfl, ⟨_, rfl, rfl⟩, .inr (.inl ⟨e10, e11, trivial, b8, ⟨rfl, trivial⟩, List.Perm.refl _⟩)⟩
        · exact hS.hi 11 rfl (by kernel_rfl) e11
      · intro ρ L D hS
        rcases hS.sp with ⟨e10, e11, -, hρ, hL⟩ | ⟨e10, e11, -, b8, hρ, hL⟩ | ⟨e10, e11, -, b8, hρ, hL⟩
        · have u35 : ρ 35 = .pointer (some ⟨fb, 0, none⟩) := hS.dep ⟨5, Ground.data⟩ (by simp) rfl _ _ rfl rfl
          clear hS hρ
          obtain ⟨base, rfl⟩ := Has.base (ρ := ρ) (l := [(35, .pointer (some ⟨fb, 0, none⟩))]) ⟨u35, trivial⟩
          clear u35
          refine RL.perm (L' := ((Lr4) ++ (([(fb, cel 53 [.slice A l.length c, .int .i64 arg, .int .i64 t.pc, .slice A4 t.st.length cp4, .bool false, .bool false])]) ++ ([(b6, cel 30 (⟨0, 0, 0, 0, 0⟩ : Ev).cells)])))) rfl hL.symm ?_
          clear hL
          refine RL.fieldAddr rfl fd53_2 rfl ?_
          refine RL.nil ?_
          exact ⟨rfl, ⟨_, rfl, rfl⟩, .inl ⟨e10, e11, trivial, trivial, List.Perm.refl _⟩⟩
        · have u8 : ρ 8 = .pointer (some ⟨b8, 0, none⟩) := hρ.1
          have u35 : ρ 35 = .pointer (some ⟨fb, 0, none⟩) := hS.dep ⟨5, Ground.data⟩ (by simp) rfl _ _ rfl rfl
          clear hS hρ
          obtain ⟨base, rfl⟩ := Has.base (ρ := ρ) (l := [(8, .pointer (some ⟨b8, 0, none⟩)), (35, .pointer (some ⟨fb, 0, none⟩))]) ⟨u8, u35, trivial⟩
          clear u8 u35
          refine RL.perm (L' := ((Lr4) ++ (([(fb, cel 53 [.slice A l.length c, .int .i64 arg, .int .i64 t.pc, .slice A4 t.st.length cp4, .bool false, .bool false])]) ++ (([(b6, cel 30 (⟨0, 0, 0, 0, 0⟩ : Ev).cells)]) ++ ([(b8, cel 27 [.int .i64 0, .int .i64 0, .int .i64 0])]))))) rfl hL.symm ?_
          clear hL
          refine RL.fieldAddr rfl fd53_2 rfl ?_
          refine RL.nil ?_
          exact ⟨rfl, ⟨_, rfl, rfl⟩, .inr (.inl ⟨e10, e11, trivial, b8, ⟨rfl, trivial⟩, List.Perm.refl _⟩)⟩
        · exact hS.hi 11 rfl (by kernel_rfl) e11
      · intro ρ L D hS
        rcases hS.sp with ⟨e10, e11, -, hρ, hL⟩ | ⟨e10, e11, -, b8, hρ, hL⟩ | ⟨e10, e11, -, b8, hρ, hL⟩
        · have u36 : ρ 36 = .pointer (some ⟨fb, 0 + 2, none⟩) := hS.dep ⟨6, Ground.data⟩ (by simp) rfl _ _ rfl rfl
          clear hS hρ
          obtain ⟨base, rfl⟩ := Has.base (ρ := ρ) (l := [(36, .pointer (some ⟨fb, 0 + 2, none⟩))]) ⟨u36, trivial⟩
          clear u36
          refine RL.perm (L' := ((Lr4) ++ (([(fb, cel 53 [.slice A l.length c, .int .i64 arg, .int .i64 t.pc, .slice A4 t.st.length cp4, .bool false, .bool false])]) ++ ([(b6, cel 30 (⟨0, 0, 0, 0, 0⟩ : Ev).cells)])))) rfl hL.symm ?_
          clear hL
          refine RL.loadO rfl sc3 rfl rfl ?_
          refine RL.nil ?_
          exact ⟨rfl, ⟨_, rfl, rfl⟩, .inl ⟨e10, e11, trivial, trivial, List.Perm.refl _⟩⟩
        · have u8 : ρ 8 = .pointer (some ⟨b8, 0, none⟩) := hρ.1
          have u36 : ρ 36 = .pointer (some ⟨fb, 0 + 2, none⟩) := hS.dep ⟨6, Ground.data⟩ (by simp) rfl _ _ rfl rfl
          clear hS hρ
          obtain ⟨base, rfl⟩ := Has.base (ρ := ρ) (l := [(8, .pointer (some ⟨b8, 0, none⟩)), (36, .pointer (some ⟨fb, 0 + 2, none⟩))]) ⟨u8, u36, trivial⟩
          clear u8 u36
          refine RL.perm (L' := ((Lr4) ++ (([(fb, cel 53 [.slice A l.length c, .int .i64 arg, .int .i64 t.pc, .slice A4 t.st.length cp4, .bool false, .bool false])]) ++ (([(b6, cel 30 (⟨0, 0, 0, 0, 0⟩ : Ev).cells)]) ++ ([(b8, cel 27 [.int .i64 0, .int .i64 0, .int .i64 0])]))))) rfl hL.symm ?_
          clear hL
          refine RL.loadO rfl sc3 rfl rfl ?_
          refine RL.nil ?_
          exact ⟨rfl, ⟨_, rfl, rfl⟩, .inr (.inl ⟨e10, e11, trivial, b8, ⟨rfl, trivial⟩, List.Perm.refl _⟩)⟩
        · exact hS.hi 11 rfl (by kernel_rfl) e11
      · intro ρ L D hS
        rcases hS.sp with ⟨e10, e11, -, hρ, hL⟩ | ⟨e10, e11, -, b8, hρ, hL⟩ | ⟨e10, e11, -, b8, hρ, hL⟩
        · have u33 : ρ 33 = .slice A l.length c := hS.dep ⟨3, Ground.data⟩ (by simp) rfl _ _ rfl rfl
          have u37 : ρ 37 = .int .i64 t.pc := hS.dep ⟨7, Ground.data⟩ (by simp) rfl _ _ rfl rfl
          clear hS hρ
          obtain ⟨base, rfl⟩ := Has.base (ρ := ρ) (l := [(33, .slice A l.length c), (37, .int .i64 t.pc)]) ⟨u33, u37, trivial⟩
          clear u33 u37
          refine RL.perm (L' := ((Lr4) ++ (([(fb, cel 53 [.slice A l.length c, .int .i64 arg, .int .i64 t.pc, .slice A4 t.st.length cp4, .bool false, .bool false])]) ++ ([(b6, cel 30 (⟨0, 0, 0, 0, 0⟩ : Ev).cells)])))) rfl hL.symm ?_
          clear hL
          refine RL.indexAddr rfl sl28 rfl rfl (hA (by omega)) rfl (by omega) ?_
          refine RL.nil ?_
          exact ⟨rfl, ⟨_, rfl, rfl⟩, .inl ⟨e10, e11, trivial, trivial, List.Perm.refl _⟩⟩
        · have u8 : ρ 8 = .pointer (some ⟨b8, 0, none⟩) := hρ.1
          have u33 : ρ 33 = .slice A l.length c := hS.dep ⟨3, Ground.data⟩ (by simp) rfl _ _ rfl rfl
          have u37 : ρ 37 = .int .i64 t.pc := hS.dep ⟨7, Ground.data⟩ (by simp) rfl _ _ rfl rfl
          clear hS hρ
          obtain ⟨base, rfl⟩ := Has.base (ρ := ρ) (l := [(8, .pointer (some ⟨b8, 0, none⟩)), (33, .slice A l.length c), (37, .int .i64 t.pc)]) ⟨u8, u33, u37, trivial⟩
          clear u8 u33 u37
          refine RL.perm (L' := ((Lr4) ++ (([(fb, cel 53 [.slice A l.length c, .int .i64 arg, .int .i64 t.pc, .slice A4 t.st.length cp4, .bool false, .bool false])]) ++ (([(b6, cel 30 (⟨0, 0, 0, 0, 0⟩ : Ev).cells)]) ++ ([(b8, cel 27 [.int .i64 0, .int .i64 0, .int .i64 0])]))))) rfl hL.symm ?_
          clear hL
          refine RL.indexAddr rfl sl28 rfl rfl (hA (by omega)) rfl (by omega) ?_
          refine RL.nil ?_
          exact ⟨rfl, ⟨_, rfl, rfl⟩, .inr (.inl ⟨e10, e11, trivial, b8, ⟨rfl, trivial⟩, List.Perm.refl _⟩)⟩
        · exact hS.hi 11 rfl (by kernel_rfl) e11
      · intro ρ L D hS
        rcases hS.sp with ⟨e10, e11, -, hρ, hL⟩ | ⟨e10, e11, -, b8, hρ, hL⟩ | ⟨e10, e11, -, b8, hρ, hL⟩
        · have u38 : ρ 38 = .pointer (some ⟨bb, oo + t.pc * 3, none⟩) := hS.dep ⟨8, Ground.data⟩ (by simp) rfl _ _ rfl rfl
          clear hS hρ
          obtain ⟨base, rfl⟩ := Has.base (ρ := ρ) (l := [(38, .pointer (some ⟨bb, oo + t.pc * 3, none⟩))]) ⟨u38, trivial⟩
          clear u38
          refine RL.perm (L' := ((Lr4) ++ (([(fb, cel 53 [.slice A l.length c, .int .i64 arg, .int .i64 t.pc, .slice A4 t.st.length cp4, .bool false, .bool false])]) ++ ([(b6, cel 30 (⟨0, 0, 0, 0, 0⟩ : Ev).cells)])))) rfl hL.symm ?_
          clear hL
          refine RL.loadIA rfl ag27 rfl (elem_at Ins.len hc hx.ins) hbb (Ins.len _) ?_
          refine RL.nil ?_
          exact ⟨rfl, ⟨_, rfl, rfl⟩, .inl ⟨e10, e11, trivial, trivial, List.Perm.refl _⟩⟩
        · have u8 : ρ 8 = .pointer (some ⟨b8, 0, none⟩) := hρ.1
          have u38 : ρ 38 = .pointer (some ⟨bb, oo + t.pc * 3, none⟩) := hS.dep ⟨8, Ground.data⟩ (by simp) rfl _ _ rfl rfl
          clear hS hρ
          obtain ⟨base, rfl⟩ := Has.base (ρ := ρ) (l := [(8, .pointer (some ⟨b8, 0, none⟩)), (38, .pointer (some ⟨bb, oo + t.pc * 3, none⟩))]) ⟨u8, u38, trivial⟩
          clear u8 u38
          refine RL.perm (L' := ((Lr4) ++ (([(fb, cel 53 [.slice A l.length c, .int .i64 arg, .int .i64 t.pc, .slice A4 t.st.length cp4, .bool false, .bool false])]) ++ (([(b6, cel 30 (⟨0, 0, 0, 0, 0⟩ : Ev).cells)]) ++ ([(b8, cel 27 [.int .i64 0, .int .i64 0, .int .i64 0])]))))) rfl hL.symm ?_
          clear hL
          refine RL.loadIA rfl ag27 rfl (elem_at Ins.len hc hx.ins) hbb (Ins.len _) ?_
          refine RL.nil ?_
          exact ⟨rfl, ⟨_, rfl, rfl⟩, .inr (.inl ⟨e10, e11, trivial, b8, ⟨rfl, trivial⟩, List.Perm.refl _⟩)⟩
        · exact hS.hi 11 rfl (by kernel_rfl) e11
      · intro ρ L D hS
        rcases hS.sp with ⟨e10, e11, -, hρ, hL⟩ | ⟨e10, e11, -, b8, hρ, hL⟩ | ⟨e10, e11, -, b8, hρ, hL⟩
        · clear hS hρ
          obtain ⟨base, rfl⟩ := Has.base (ρ := ρ) (l := []) trivial
          refine RL.perm (L' := ((Lr4) ++ (([(fb, cel 53 [.slice A l.length c, .int .i64 arg, .int .i64 t.pc, .slice A4 t.st.length cp4, .bool false, .bool false])]) ++ ([(b6, cel 30 (⟨0, 0, 0, 0, 0⟩ : Ev).cells)])))) rfl hL.symm ?_
          clear hL
          refine RL.alloc rfl rfl zt27 ?_
          intro b8 hb8
          dsimp only at hb8
          refine RL.nil ?_
          exact ⟨rfl, ⟨_, rfl, trivial⟩, .inr (.inl ⟨rfl, e11, trivial, b8, ⟨rfl, trivial⟩, (by classical exact List.perm_iff_count.2 (fun z => by simp only [List.count_append, List.count_cons, List.count_nil, List.cons_append, List.nil_append, List.append_nil, List.set_cons_zero, List.set_cons_succ] <;> omega))⟩)⟩
        · exact hS.me e10
        · exact hS.hi 11 rfl (by kernel_rfl) e11
      · intro ρ L D hS
        rcases hS.sp with ⟨e10, e11, -, hρ, hL⟩ | ⟨e10, e11, -, b8, hρ, hL⟩ | ⟨e10, e11, -, b8, hρ, hL⟩
        · exact hS.lo 10 (by kernel_rfl) e10
        · have u8 : ρ 8 = .pointer (some ⟨b8, 0, none⟩) := hρ.1
          have u39 : ρ 39 = .agg x.cells.toArray := hS.dep ⟨9, Ground.data⟩ (by simp) rfl _ _ rfl rfl
          clear hS hρ
          obtain ⟨base, rfl⟩ := Has.base (ρ := ρ) (l := [(8, .pointer (some ⟨b8, 0, none⟩)), (39, .agg x.cells.toArray)]) ⟨u8, u39, trivial⟩
          clear u8 u39
          refine RL.perm (L' := ((Lr4) ++ (([(fb, cel 53 [.slice A l.length c, .int .i64 arg, .int .i64 t.pc, .slice A4 t.st.length cp4, .bool false, .bool false])]) ++ (([(b6, cel 30 (⟨0, 0, 0, 0, 0⟩ : Ev).cells)]) ++ ([(b8, cel 27 [.int .i64 0, .int .i64 0, .int .i64 0])]))))) rfl hL.symm ?_
          clear hL
          refine RL.stA rfl rfl ag27.size rfl rfl (Ins.len _) rfl (Ins.one x) ?_
          refine RL.nil ?_
          exact ⟨rfl, ⟨_, rfl, trivial⟩, .inr (.inr (⟨e10, rfl, trivial, b8, ⟨rfl, trivial⟩, (by classical exact List.perm_iff_count.2 (fun z => by simp only [List.count_append, List.count_cons, List.count_nil, List.cons_append, List.nil_append, List.append_nil, List.set_cons_zero, List.set_cons_succ] <;> omega))⟩))⟩
        · exact hS.me e11
      · intro ρ L D hD hT hfix hsp
        rcases hsp with ⟨e10, e11, -, hρ, hL⟩ | ⟨e10, e11, -, b8, hρ, hL⟩ | ⟨e10, e11, -, b8, hρ, hL⟩
        · exact done_no hD 10 rfl e10
        · exact done_no hD 11 rfl e11
        · have u0 : ρ 0 = .pointer (some ⟨fb, 0, none⟩) := hfix 0 (by decide)
          have u2 : ρ 2 = .int .i64 u := hfix 2 (by decide)
          have u6 : ρ 6 = .pointer (some ⟨b6, 0, none⟩) := hfix 6 (by decide)
          have u8 : ρ 8 = .pointer (some ⟨b8, 0, none⟩) := hρ.1
          clear hT hfix hD hρ
          obtain ⟨base, rfl⟩ := Has.base (ρ := ρ) (l := [(0, .pointer (some ⟨fb, 0, none⟩)), (2, .int .i64 u), (6, .pointer (some ⟨b6, 0, none⟩)), (8, .pointer (some ⟨b8, 0, none⟩))]) ⟨u0, u2, u6, u8, trivial⟩
          clear u0 u2 u6 u8
          refine ⟨_, hL.symm, ((Lr4) ++ (([(fb, cel 53 [.slice A l.length c, .int .i64 arg, .int .i64 t.pc, .slice A4 t.st.length cp4, .bool false, .bool false])]) ++ (([(b6, cel 30 (⟨0, 0, 0, 0, 0⟩ : Ev).cells)]) ++ ([(b8, cel 27 x.cells)])))), List.Sublist.append (List.Sublist.refl _) (List.Sublist.append (List.Sublist.refl _) (List.Sublist.append (List.Sublist.refl _) (List.Sublist.refl _))), ?_⟩
          refine X.seq ?_
          refine X.region rfl ?_
          refine RL.move rfl ?_
          refine RL.nilCheck rfl rfl ?_
          refine RL.fieldAddr rfl fd53_2 rfl ?_
          refine RL.loadO rfl sc3 rfl rfl ?_
          refine RL.add rfl rfl rfl (by omega) ?_
          refine RL.nilCheck rfl rfl ?_
          refine RL.fieldAddr rfl fd53_2 rfl ?_
          refine RL.stI rfl rfl sc3.size rfl rfl (by first | exact Nat.zero_lt_one | decide | simp) ?_
          refine RL.nil ?_
          refine X.seq ?_
          refine X.region rfl ?_
          refine RL.fieldAddr rfl fd27_0 rfl ?_
          refine RL.loadO rfl sc3 rfl rfl ?_
          refine RL.nil ?_
          refine X.block ?_
          refine X.seq ?_
          refine X.region rfl ?_
          refine RL.cmp_s rfl rfl rfl rfl (fun hk1 => ?_) (fun hk1 => ?_)
          · replace hk1 : (_ : Int) = _ := hk1
            have hst : stepI x arg u t = .go u ⟨t.pc + 1, t.st ++ [x.a], false, false⟩ := by unfold stepI; simp [hk1]
            refine RL.assign rfl ?_
            refine RL.nil ?_
            refine X.cond_t rfl ?_
            refine X.region rfl ?_
            refine RL.move rfl ?_
            refine RL.fieldAddr rfl fd27_1 rfl ?_
            refine RL.loadO rfl sc3 rfl rfl ?_
            refine RL.fn (Lp := Lr4 ++ [(fb, cel 53 [.slice A l.length c, .int .i64 arg, .int .i64 ((t.pc : Int) + 1), .slice A4 t.st.length cp4, .bool false, .bool false])]) (Lr := [(b6, cel 30 (⟨0, 0, 0, 0, 0⟩ : Ev).cells), (b8, cel 27 x.cells)]) rfl rfl rfl en19 (by classical exact List.perm_iff_count.2 (fun z => by simp only [List.count_append, List.count_cons, List.count_nil, List.cons_append, List.nil_append, List.set_cons_zero, List.set_cons_succ] <;> omega)) (fun w1 hw1 => f_lay fb (.slice A l.length c) (.int .i64 arg) (.int .i64 ((t.pc : Int) + 1)) (.bool false) (.bool false) (t.st) A4 cp4 (Lr4) hr4 (by simp only [List.length_append, List.length_dropLast, List.length_cons, List.length_nil] at *; omega) (x.a) w1 (fun p hp => hw1.own p (List.mem_append_left _ hp)) (hw1.nodup.sublist ((List.sublist_append_left _ _).map _))) rfl ?_
            rintro _ _ ⟨rfl, A5, cp5, Lr5, hr5, hs5⟩
            refine RL.drop (L' := Lr5 ++ ((fb, cel 53 [.slice A l.length c, .int .i64 arg, .int .i64 ((t.pc : Int) + 1), .slice A5 (t.st ++ [x.a]).length cp5, .bool false, .bool false]) :: [(b6, cel 30 (⟨0, 0, 0, 0, 0⟩ : Ev).cells), (b8, cel 27 x.cells)])) rfl ?_ ?_
            · have := hs5.append (List.Sublist.refl ([(b6, cel 30 (⟨0, 0, 0, 0, 0⟩ : Ev).cells), (b8, cel 27 x.cells)]))
              rwa [List.append_assoc] at this
            refine RL.nil ?_
            refine X.blk ?_
            refine X.blk ?_
            have hn := hwk2.next hv hx hst
            have hrn := runN_go (n := m) hx.ins hst
            rw [hrun] at hrn
            refine X.hyp ⟨rfl, m, by omega, _, (List.Sublist.append (List.Sublist.refl _) (.cons_cons _ (.cons_cons _ (List.nil_sublist _)))), u, ⟨t.pc + 1, t.st ++ [x.a], false, false⟩, A5, cp5, Lr5, (by have := hn.2; dsimp only at this ⊢; omega), hn.1, hrn.symm, hr5, ⟨rfl, rfl, rfl, trivial⟩, rfl⟩
          · replace hk1 : ¬ ((_ : Int) = _) := hk1
            refine RL.assign rfl ?_
            refine RL.nil ?_
            refine X.cond_f rfl ?_
            refine X.seq ?_
            refine X.region rfl ?_
            refine RL.cmp_s rfl rfl rfl rfl (fun hk2 => ?_) (fun hk2 => ?_)
            · replace hk2 : (_ : Int) = _ := hk2
              have hst : stepI x arg u t = .go u ⟨t.pc + 1, t.st ++ [arg], false, false⟩ := by unfold stepI; simp [hk2]
              refine RL.assign rfl ?_
              refine RL.nil ?_
              refine X.cond_t rfl ?_
              refine X.region rfl ?_
              refine RL.move rfl ?_
              refine RL.move rfl ?_
              refine RL.nilCheck rfl rfl ?_
              refine RL.fieldAddr rfl fd53_1 rfl ?_
              refine RL.loadO rfl sc2 rfl rfl ?_
              refine RL.fn (Lp := Lr4 ++ [(fb, cel 53 [.slice A l.length c, .int .i64 arg, .int .i64 ((t.pc : Int) + 1), .slice A4 t.st.length cp4, .bool false, .bool false])]) (Lr := [(b6, cel 30 (⟨0, 0, 0, 0, 0⟩ : Ev).cells), (b8, cel 27 x.cells)]) rfl rfl rfl en19 (by classical exact List.perm_iff_count.2 (fun z => by simp only [List.count_append, List.count_cons, List.count_nil, List.cons_append, List.nil_append, List.set_cons_zero, List.set_cons_succ] <;> omega)) (fun w1 hw1 => f_lay fb (.slice A l.length c) (.int .i64 arg) (.int .i64 ((t.pc : Int) + 1)) (.bool false) (.bool false) (t.st) A4 cp4 (Lr4) hr4 (by simp only [List.length_append, List.length_dropLast, List.length_cons, List.length_nil] at *; omega) (arg) w1 (fun p hp => hw1.own p (List.mem_append_left _ hp)) (hw1.nodup.sublist ((List.sublist_append_left _ _).map _))) rfl ?_
              rintro _ _ ⟨rfl, A5, cp5, Lr5, hr5, hs5⟩
              refine RL.drop (L' := Lr5 ++ ((fb, cel 53 [.slice A l.length c, .int .i64 arg, .int .i64 ((t.pc : Int) + 1), .slice A5 (t.st ++ [arg]).length cp5, .bool false, .bool false]) :: [(b6, cel 30 (⟨0, 0, 0, 0, 0⟩ : Ev).cells), (b8, cel 27 x.cells)])) rfl ?_ ?_
              · have := hs5.append (List.Sublist.refl ([(b6, cel 30 (⟨0, 0, 0, 0, 0⟩ : Ev).cells), (b8, cel 27 x.cells)]))
                rwa [List.append_assoc] at this
              refine RL.nil ?_
              refine X.blk ?_
              refine X.blk ?_
              have hn := hwk2.next hv hx hst
              have hrn := runN_go (n := m) hx.ins hst
              rw [hrun] at hrn
              refine X.hyp ⟨rfl, m, by omega, _, (List.Sublist.append (List.Sublist.refl _) (.cons_cons _ (.cons_cons _ (List.nil_sublist _)))), u, ⟨t.pc + 1, t.st ++ [arg], false, false⟩, A5, cp5, Lr5, (by have := hn.2; dsimp only at this ⊢; omega), hn.1, hrn.symm, hr5, ⟨rfl, rfl, rfl, trivial⟩, rfl⟩
            · replace hk2 : ¬ ((_ : Int) = _) := hk2
              refine RL.assign rfl ?_
              refine RL.nil ?_
              refine X.cond_f rfl ?_
              refine X.seq ?_
              refine X.region rfl ?_
              refine RL.cmp_s rfl rfl rfl rfl (fun hk3 => ?_) (fun hk3 => ?_)
              · replace hk3 : (_ : Int) = _ := hk3
                have hst : stepI x arg u t = .go u ⟨t.pc + 1, t.st ++ [u], false, false⟩ := by unfold stepI; simp [hk3]
                refine RL.assign rfl ?_
                refine RL.nil ?_
                refine X.cond_t rfl ?_
                refine X.region rfl ?_
                refine RL.move rfl ?_
                refine RL.move rfl ?_
                refine RL.fn (Lp := Lr4 ++ [(fb, cel 53 [.slice A l.length c, .int .i64 arg, .int .i64 ((t.pc : Int) + 1), .slice A4 t.st.length cp4, .bool false, .bool false])]) (Lr := [(b6, cel 30 (⟨0, 0, 0, 0, 0⟩ : Ev).cells), (b8, cel 27 x.cells)]) rfl rfl rfl en19 (by classical exact List.perm_iff_count.2 (fun z => by simp only [List.count_append, List.count_cons, List.count_nil, List.cons_append, List.nil_append, List.set_cons_zero, List.set_cons_succ] <;> omega)) (fun w1 hw1 => f_lay fb (.slice A l.length c) (.int .i64 arg) (.int .i64 ((t.pc : Int) + 1)) (.bool false) (.bool false) (t.st) A4 cp4 (Lr4) hr4 (by simp only [List.length_append, List.length_dropLast, List.length_cons, List.length_nil] at *; omega) (u) w1 (fun p hp => hw1.own p (List.mem_append_left _ hp)) (hw1.nodup.sublist ((List.sublist_append_left _ _).map _))) rfl ?_
                rintro _ _ ⟨rfl, A5, cp5, Lr5, hr5, hs5⟩
                refine RL.drop (L' := Lr5 ++ ((fb, cel 53 [.slice A l.length c, .int .i64 arg, .int .i64 ((t.pc : Int) + 1), .slice A5 (t.st ++ [u]).length cp5, .bool false, .bool false]) :: [(b6, cel 30 (⟨0, 0, 0, 0, 0⟩ : Ev).cells), (b8, cel 27 x.cells)])) rfl ?_ ?_
                · have := hs5.append (List.Sublist.refl ([(b6, cel 30 (⟨0, 0, 0, 0, 0⟩ : Ev).cells), (b8, cel 27 x.cells)]))
                  rwa [List.append_assoc] at this
                refine RL.nil ?_
                refine X.blk ?_
                refine X.blk ?_
                have hn := hwk2.next hv hx hst
                have hrn := runN_go (n := m) hx.ins hst
                rw [hrun] at hrn
                refine X.hyp ⟨rfl, m, by omega, _, (List.Sublist.append (List.Sublist.refl _) (.cons_cons _ (.cons_cons _ (List.nil_sublist _)))), u, ⟨t.pc + 1, t.st ++ [u], false, false⟩, A5, cp5, Lr5, (by have := hn.2; dsimp only at this ⊢; omega), hn.1, hrn.symm, hr5, ⟨rfl, rfl, rfl, trivial⟩, rfl⟩
              · replace hk3 : ¬ ((_ : Int) = _) := hk3
                refine RL.assign rfl ?_
                refine RL.nil ?_
                refine X.cond_f rfl ?_
                refine X.seq ?_
                refine X.region rfl ?_
                refine RL.cmp_s rfl rfl rfl rfl (fun hk4 => ?_) (fun hk4 => ?_)
                · replace hk4 : (_ : Int) = _ := hk4
                  have htk1 : 1 ≤ t.st.length := by rw [hk4, show takeP 4 = 1 from rfl] at htk; omega
                  have hst : stepI x arg u t = .go (top t.st) ⟨t.pc + 1, t.st.dropLast, false, false⟩ := by unfold stepI; simp [hk4]
                  refine RL.assign rfl ?_
                  refine RL.nil ?_
                  refine X.cond_t rfl ?_
                  refine X.region rfl ?_
                  refine RL.move rfl ?_
                  refine RL.fn (Lp := Lr4 ++ [(fb, cel 53 [.slice A l.length c, .int .i64 arg, .int .i64 ((t.pc : Int) + 1), .slice A4 t.st.length cp4, .bool false, .bool false])]) (Lr := [(b6, cel 30 (⟨0, 0, 0, 0, 0⟩ : Ev).cells), (b8, cel 27 x.cells)]) rfl rfl rfl en20 (by classical exact List.perm_iff_count.2 (fun z => by simp only [List.count_append, List.count_cons, List.count_nil, List.cons_append, List.nil_append, List.set_cons_zero, List.set_cons_succ] <;> omega)) (fun w1 hw1 => f_take fb (.slice A l.length c) (.int .i64 arg) (.int .i64 ((t.pc : Int) + 1)) (.bool false) (.bool false) (t.st) A4 cp4 (Lr4) hr4 (by simp only [List.length_append, List.length_dropLast, List.length_cons, List.length_nil] at *; omega) (by simp only [List.length_append, List.length_dropLast, List.length_cons, List.length_nil] at *; omega) w1 (fun p hp => hw1.own p (List.mem_append_left _ hp)) (hw1.nodup.sublist ((List.sublist_append_left _ _).map _))) rfl ?_
                  rintro _ _ ⟨rfl, A5, cp5, Lr5, hr5, hs5⟩
                  refine RL.drop (L' := Lr5 ++ ((fb, cel 53 [.slice A l.length c, .int .i64 arg, .int .i64 ((t.pc : Int) + 1), .slice A5 t.st.dropLast.length cp5, .bool false, .bool false]) :: [(b6, cel 30 (⟨0, 0, 0, 0, 0⟩ : Ev).cells), (b8, cel 27 x.cells)])) rfl ?_ ?_
                  · have := hs5.append (List.Sublist.refl ([(b6, cel 30 (⟨0, 0, 0, 0, 0⟩ : Ev).cells), (b8, cel 27 x.cells)]))
                    rwa [List.append_assoc] at this
                  refine RL.assign rfl ?_
                  refine RL.nil ?_
                  refine X.blk ?_
                  refine X.blk ?_
                  have hn := hwk2.next hv hx hst
                  have hrn := runN_go (n := m) hx.ins hst
                  rw [hrun] at hrn
                  refine X.hyp ⟨rfl, m, by omega, _, (List.Sublist.append (List.Sublist.refl _) (.cons_cons _ (.cons_cons _ (List.nil_sublist _)))), top t.st, ⟨t.pc + 1, t.st.dropLast, false, false⟩, A5, cp5, Lr5, (by have := hn.2; dsimp only at this ⊢; omega), hn.1, hrn.symm, hr5, ⟨rfl, rfl, rfl, trivial⟩, rfl⟩
                · replace hk4 : ¬ ((_ : Int) = _) := hk4
                  refine RL.assign rfl ?_
                  refine RL.nil ?_
                  refine X.cond_f rfl ?_
                  refine X.seq ?_
                  refine X.region rfl ?_
                  refine RL.cmp_s rfl rfl rfl rfl (fun hk5 => ?_) (fun hk5 => ?_)
                  · replace hk5 : (_ : Int) = _ := hk5
                    have htk1 : 2 ≤ t.st.length := by rw [hk5, show takeP 5 = 2 from rfl] at htk; omega
                    have hst : stepI x arg u t = .go u ⟨t.pc + 1, t.st.dropLast.dropLast ++ [w64 (top t.st.dropLast + top t.st)], false, false⟩ := by unfold stepI; simp [hk5]
                    refine RL.assign rfl ?_
                    refine RL.nil ?_
                    refine X.cond_t rfl ?_
                    refine X.seq ?_
                    refine X.region rfl ?_
                    refine RL.move rfl ?_
                    refine RL.fn (Lp := Lr4 ++ [(fb, cel 53 [.slice A l.length c, .int .i64 arg, .int .i64 ((t.pc : Int) + 1), .slice A4 t.st.length cp4, .bool false, .bool false])]) (Lr := [(b6, cel 30 (⟨0, 0, 0, 0, 0⟩ : Ev).cells), (b8, cel 27 x.cells)]) rfl rfl rfl en20 (by classical exact List.perm_iff_count.2 (fun z => by simp only [List.count_append, List.count_cons, List.count_nil, List.cons_append, List.nil_append, List.set_cons_zero, List.set_cons_succ] <;> omega)) (fun w1 hw1 => f_take fb (.slice A l.length c) (.int .i64 arg) (.int .i64 ((t.pc : Int) + 1)) (.bool false) (.bool false) (t.st) A4 cp4 (Lr4) hr4 (by simp only [List.length_append, List.length_dropLast, List.length_cons, List.length_nil] at *; omega) (by simp only [List.length_append, List.length_dropLast, List.length_cons, List.length_nil] at *; omega) w1 (fun p hp => hw1.own p (List.mem_append_left _ hp)) (hw1.nodup.sublist ((List.sublist_append_left _ _).map _))) rfl ?_
                    rintro _ _ ⟨rfl, A5, cp5, Lr5, hr5, hs5⟩
                    refine RL.drop (L' := Lr5 ++ ((fb, cel 53 [.slice A l.length c, .int .i64 arg, .int .i64 ((t.pc : Int) + 1), .slice A5 t.st.dropLast.length cp5, .bool false, .bool false]) :: [(b6, cel 30 (⟨0, 0, 0, 0, 0⟩ : Ev).cells), (b8, cel 27 x.cells)])) rfl ?_ ?_
                    · have := hs5.append (List.Sublist.refl ([(b6, cel 30 (⟨0, 0, 0, 0, 0⟩ : Ev).cells), (b8, cel 27 x.cells)]))
                      rwa [List.append_assoc] at this
                    refine RL.assign rfl ?_
                    refine RL.nil ?_
                    refine X.region rfl ?_
                    refine RL.move rfl ?_
                    refine RL.move rfl ?_
                    refine RL.fn (Lp := Lr5 ++ [(fb, cel 53 [.slice A l.length c, .int .i64 arg, .int .i64 ((t.pc : Int) + 1), .slice A5 t.st.dropLast.length cp5, .bool false, .bool false])]) (Lr := [(b6, cel 30 (⟨0, 0, 0, 0, 0⟩ : Ev).cells), (b8, cel 27 x.cells)]) rfl rfl rfl en20 (by classical exact List.perm_iff_count.2 (fun z => by simp only [List.count_append, List.count_cons, List.count_nil, List.cons_append, List.nil_append, List.set_cons_zero, List.set_cons_succ] <;> omega)) (fun w1 hw1 => f_take fb (.slice A l.length c) (.int .i64 arg) (.int .i64 ((t.pc : Int) + 1)) (.bool false) (.bool false) (t.st.dropLast) A5 cp5 (Lr5) hr5 (by simp only [List.length_append, List.length_dropLast, List.length_cons, List.length_nil] at *; omega) (by simp only [List.length_append, List.length_dropLast, List.length_cons, List.length_nil] at *; omega) w1 (fun p hp => hw1.own p (List.mem_append_left _ hp)) (hw1.nodup.sublist ((List.sublist_append_left _ _).map _))) rfl ?_
                    rintro _ _ ⟨rfl, A6, cp6, Lr6, hr6, hs6⟩
                    refine RL.drop (L' := Lr6 ++ ((fb, cel 53 [.slice A l.length c, .int .i64 arg, .int .i64 ((t.pc : Int) + 1), .slice A6 t.st.dropLast.dropLast.length cp6, .bool false, .bool false]) :: [(b6, cel 30 (⟨0, 0, 0, 0, 0⟩ : Ev).cells), (b8, cel 27 x.cells)])) rfl ?_ ?_
                    · have := hs6.append (List.Sublist.refl ([(b6, cel 30 (⟨0, 0, 0, 0, 0⟩ : Ev).cells), (b8, cel 27 x.cells)]))
                      rwa [List.append_assoc] at this
                    refine RL.move rfl ?_
                    refine RL.addW rfl rfl rfl ?_
                    refine RL.fn (Lp := Lr6 ++ [(fb, cel 53 [.slice A l.length c, .int .i64 arg, .int .i64 ((t.pc : Int) + 1), .slice A6 t.st.dropLast.dropLast.length cp6, .bool false, .bool false])]) (Lr := [(b6, cel 30 (⟨0, 0, 0, 0, 0⟩ : Ev).cells), (b8, cel 27 x.cells)]) rfl rfl rfl en19 (by classical exact List.perm_iff_count.2 (fun z => by simp only [List.count_append, List.count_cons, List.count_nil, List.cons_append, List.nil_append, List.set_cons_zero, List.set_cons_succ] <;> omega)) (fun w1 hw1 => f_lay fb (.slice A l.length c) (.int .i64 arg) (.int .i64 ((t.pc : Int) + 1)) (.bool false) (.bool false) (t.st.dropLast.dropLast) A6 cp6 (Lr6) hr6 (by simp only [List.length_append, List.length_dropLast, List.length_cons, List.length_nil] at *; omega) ((w64 (top t.st.dropLast + top t.st))) w1 (fun p hp => hw1.own p (List.mem_append_left _ hp)) (hw1.nodup.sublist ((List.sublist_append_left _ _).map _))) rfl ?_
                    rintro _ _ ⟨rfl, A7, cp7, Lr7, hr7, hs7⟩
                    refine RL.drop (L' := Lr7 ++ ((fb, cel 53 [.slice A l.length c, .int .i64 arg, .int .i64 ((t.pc : Int) + 1), .slice A7 (t.st.dropLast.dropLast ++ [(w64 (top t.st.dropLast + top t.st))]).length cp7, .bool false, .bool false]) :: [(b6, cel 30 (⟨0, 0, 0, 0, 0⟩ : Ev).cells), (b8, cel 27 x.cells)])) rfl ?_ ?_
                    · have := hs7.append (List.Sublist.refl ([(b6, cel 30 (⟨0, 0, 0, 0, 0⟩ : Ev).cells), (b8, cel 27 x.cells)]))
                      rwa [List.append_assoc] at this
                    refine RL.nil ?_
                    refine X.blk ?_
                    refine X.blk ?_
                    have hn := hwk2.next hv hx hst
                    have hrn := runN_go (n := m) hx.ins hst
                    rw [hrun] at hrn
                    refine X.hyp ⟨rfl, m, by omega, _, (List.Sublist.append (List.Sublist.refl _) (.cons_cons _ (.cons_cons _ (List.nil_sublist _)))), u, ⟨t.pc + 1, t.st.dropLast.dropLast ++ [w64 (top t.st.dropLast + top t.st)], false, false⟩, A7, cp7, Lr7, (by have := hn.2; dsimp only at this ⊢; omega), hn.1, hrn.symm, hr7, ⟨rfl, rfl, rfl, trivial⟩, rfl⟩
                  · replace hk5 : ¬ ((_ : Int) = _) := hk5
                    refine RL.assign rfl ?_
                    refine RL.nil ?_
                    refine X.cond_f rfl ?_
                    refine X.seq ?_
                    refine X.region rfl ?_
                    refine RL.cmp_s rfl rfl rfl rfl (fun hk6 => ?_) (fun hk6 => ?_)
                    · replace hk6 : (_ : Int) = _ := hk6
                      have htk1 : 1 ≤ t.st.length := by rw [hk6, show takeP 6 = 1 from rfl] at htk; omega
                      have hst : stepI x arg u t = .go u ⟨t.pc + 1, t.st.dropLast ++ [w64 (0 - top t.st)], false, false⟩ := by unfold stepI; simp [hk6]
                      refine RL.assign rfl ?_
                      refine RL.nil ?_
                      refine X.cond_t rfl ?_
                      refine X.region rfl ?_
                      refine RL.move rfl ?_
                      refine RL.move rfl ?_
                      refine RL.fn (Lp := Lr4 ++ [(fb, cel 53 [.slice A l.length c, .int .i64 arg, .int .i64 ((t.pc : Int) + 1), .slice A4 t.st.length cp4, .bool false, .bool false])]) (Lr := [(b6, cel 30 (⟨0, 0, 0, 0, 0⟩ : Ev).cells), (b8, cel 27 x.cells)]) rfl rfl rfl en20 (by classical exact List.perm_iff_count.2 (fun z => by simp only [List.count_append, List.count_cons, List.count_nil, List.cons_append, List.nil_append, List.set_cons_zero, List.set_cons_succ] <;> omega)) (fun w1 hw1 => f_take fb (.slice A l.length c) (.int .i64 arg) (.int .i64 ((t.pc : Int) + 1)) (.bool false) (.bool false) (t.st) A4 cp4 (Lr4) hr4 (by simp only [List.length_append, List.length_dropLast, List.length_cons, List.length_nil] at *; omega) (by simp only [List.length_append, List.length_dropLast, List.length_cons, List.length_nil] at *; omega) w1 (fun p hp => hw1.own p (List.mem_append_left _ hp)) (hw1.nodup.sublist ((List.sublist_append_left _ _).map _))) rfl ?_
                      rintro _ _ ⟨rfl, A5, cp5, Lr5, hr5, hs5⟩
                      refine RL.drop (L' := Lr5 ++ ((fb, cel 53 [.slice A l.length c, .int .i64 arg, .int .i64 ((t.pc : Int) + 1), .slice A5 t.st.dropLast.length cp5, .bool false, .bool false]) :: [(b6, cel 30 (⟨0, 0, 0, 0, 0⟩ : Ev).cells), (b8, cel 27 x.cells)])) rfl ?_ ?_
                      · have := hs5.append (List.Sublist.refl ([(b6, cel 30 (⟨0, 0, 0, 0, 0⟩ : Ev).cells), (b8, cel 27 x.cells)]))
                        rwa [List.append_assoc] at this
                      refine RL.negW rfl rfl ?_
                      refine RL.fn (Lp := Lr5 ++ [(fb, cel 53 [.slice A l.length c, .int .i64 arg, .int .i64 ((t.pc : Int) + 1), .slice A5 t.st.dropLast.length cp5, .bool false, .bool false])]) (Lr := [(b6, cel 30 (⟨0, 0, 0, 0, 0⟩ : Ev).cells), (b8, cel 27 x.cells)]) rfl rfl rfl en19 (by classical exact List.perm_iff_count.2 (fun z => by simp only [List.count_append, List.count_cons, List.count_nil, List.cons_append, List.nil_append, List.set_cons_zero, List.set_cons_succ] <;> omega)) (fun w1 hw1 => f_lay fb (.slice A l.length c) (.int .i64 arg) (.int .i64 ((t.pc : Int) + 1)) (.bool false) (.bool false) (t.st.dropLast) A5 cp5 (Lr5) hr5 (by simp only [List.length_append, List.length_dropLast, List.length_cons, List.length_nil] at *; omega) ((w64 (0 - top t.st))) w1 (fun p hp => hw1.own p (List.mem_append_left _ hp)) (hw1.nodup.sublist ((List.sublist_append_left _ _).map _))) rfl ?_
                      rintro _ _ ⟨rfl, A6, cp6, Lr6, hr6, hs6⟩
                      refine RL.drop (L' := Lr6 ++ ((fb, cel 53 [.slice A l.length c, .int .i64 arg, .int .i64 ((t.pc : Int) + 1), .slice A6 (t.st.dropLast ++ [(w64 (0 - top t.st))]).length cp6, .bool false, .bool false]) :: [(b6, cel 30 (⟨0, 0, 0, 0, 0⟩ : Ev).cells), (b8, cel 27 x.cells)])) rfl ?_ ?_
                      · have := hs6.append (List.Sublist.refl ([(b6, cel 30 (⟨0, 0, 0, 0, 0⟩ : Ev).cells), (b8, cel 27 x.cells)]))
                        rwa [List.append_assoc] at this
                      refine RL.nil ?_
                      refine X.blk ?_
                      refine X.blk ?_
                      have hn := hwk2.next hv hx hst
                      have hrn := runN_go (n := m) hx.ins hst
                      rw [hrun] at hrn
                      refine X.hyp ⟨rfl, m, by omega, _, (List.Sublist.append (List.Sublist.refl _) (.cons_cons _ (.cons_cons _ (List.nil_sublist _)))), u, ⟨t.pc + 1, t.st.dropLast ++ [w64 (0 - top t.st)], false, false⟩, A6, cp6, Lr6, (by have := hn.2; dsimp only at this ⊢; omega), hn.1, hrn.symm, hr6, ⟨rfl, rfl, rfl, trivial⟩, rfl⟩
                    · replace hk6 : ¬ ((_ : Int) = _) := hk6
                      refine RL.assign rfl ?_
                      refine RL.nil ?_
                      refine X.cond_f rfl ?_
                      refine X.seq ?_
                      refine X.region rfl ?_
                      refine RL.cmp_s rfl rfl rfl rfl (fun hk7 => ?_) (fun hk7 => ?_)
                      · replace hk7 : (_ : Int) = _ := hk7
                        have htk1 : 1 ≤ t.st.length := by rw [hk7, show takeP 7 = 1 from rfl] at htk; omega
                        have hsk := hx.skip hk7
                        refine RL.assign rfl ?_
                        refine RL.nil ?_
                        refine X.cond_t rfl ?_
                        refine X.seq ?_
                        refine X.region rfl ?_
                        refine RL.move rfl ?_
                        refine RL.fn (Lp := Lr4 ++ [(fb, cel 53 [.slice A l.length c, .int .i64 arg, .int .i64 ((t.pc : Int) + 1), .slice A4 t.st.length cp4, .bool false, .bool false])]) (Lr := [(b6, cel 30 (⟨0, 0, 0, 0, 0⟩ : Ev).cells), (b8, cel 27 x.cells)]) rfl rfl rfl en20 (by classical exact List.perm_iff_count.2 (fun z => by simp only [List.count_append, List.count_cons, List.count_nil, List.cons_append, List.nil_append, List.set_cons_zero, List.set_cons_succ] <;> omega)) (fun w1 hw1 => f_take fb (.slice A l.length c) (.int .i64 arg) (.int .i64 ((t.pc : Int) + 1)) (.bool false) (.bool false) (t.st) A4 cp4 (Lr4) hr4 (by simp only [List.length_append, List.length_dropLast, List.length_cons, List.length_nil] at *; omega) (by simp only [List.length_append, List.length_dropLast, List.length_cons, List.length_nil] at *; omega) w1 (fun p hp => hw1.own p (List.mem_append_left _ hp)) (hw1.nodup.sublist ((List.sublist_append_left _ _).map _))) rfl ?_
                        rintro _ _ ⟨rfl, A5, cp5, Lr5, hr5, hs5⟩
                        refine RL.drop (L' := Lr5 ++ ((fb, cel 53 [.slice A l.length c, .int .i64 arg, .int .i64 ((t.pc : Int) + 1), .slice A5 t.st.dropLast.length cp5, .bool false, .bool false]) :: [(b6, cel 30 (⟨0, 0, 0, 0, 0⟩ : Ev).cells), (b8, cel 27 x.cells)])) rfl ?_ ?_
                        · have := hs5.append (List.Sublist.refl ([(b6, cel 30 (⟨0, 0, 0, 0, 0⟩ : Ev).cells), (b8, cel 27 x.cells)]))
                          rwa [List.append_assoc] at this
                        refine RL.cmp_s rfl rfl rfl rfl (fun hz => ?_) (fun hz => ?_)
                        · replace hz : (_ : Int) = _ := hz
                          have hst : stepI x arg u t = .go u ⟨t.pc + 1 + x.a.toNat, t.st.dropLast, false, false⟩ := by unfold stepI; simp [hk7, hz]
                          refine RL.nil ?_
                          refine X.cond_t rfl ?_
                          refine X.set [.val (.pointer (some ⟨fb, 0, none⟩)), .val (.pointer (some ⟨fb, 0, none⟩)), .val (.pointer (some ⟨fb, 0 + 2, none⟩)), .val (.int .i64 ((t.pc : Int) + 1)), .val (.pointer (some ⟨b8, 0 + 1, none⟩)), .val (.int .i64 x.a), .val (.int .i64 (((t.pc + 1 + x.a.toNat : Nat)) : Int)), .val (.pointer (some ⟨fb, 0, none⟩)), .val (.pointer (some ⟨fb, 0 + 2, none⟩)), .any] [[], [0], [0, 1], [0, 1, 2], [], [4], [0, 1, 2, 3, 4, 5], [0, 1, 2, 3, 4, 5, 6], [0, 1, 2, 3, 4, 5, 6, 7], [0, 1, 2, 3, 4, 5, 6, 7, 8]] (fun D ρ L => (D 9 = false ∧ True ∧ Has ρ [] ∧ L.Perm ((Lr5) ++ (([(fb, cel 53 [.slice A l.length c, .int .i64 arg, .int .i64 ((t.pc : Int) + 1), .slice A5 t.st.dropLast.length cp5, .bool false, .bool false])]) ++ (([(b6, cel 30 (⟨0, 0, 0, 0, 0⟩ : Ev).cells)]) ++ ([(b8, cel 27 x.cells)]))))) ∨ (D 9 = true ∧ True ∧ Has ρ [] ∧ L.Perm ((Lr5) ++ (([(fb, cel 53 [.slice A l.length c, .int .i64 arg, .int .i64 (((t.pc + 1 + x.a.toNat : Nat)) : Int), .slice A5 t.st.dropLast.length cp5, .bool false, .bool false])]) ++ (([(b6, cel 30 (⟨0, 0, 0, 0, 0⟩ : Ev).cells)]) ++ ([(b8, cel 27 x.cells)])))))) rfl (by kernel_rfl) (by kernel_rfl) (by kernel_rfl) (by kernel_rfl) (fun D hD => .inl ⟨hD 9, trivial, trivial, (List.Perm.refl _)⟩) ⟨?_, ?_, ?_, ?_, ?_, ?_, ?_, ?_, ?_, ?_, trivial⟩ ?_
                          · intro ρ L D hS
                            rcases hS.sp with ⟨e9, -, hρ, hL⟩ | ⟨e9, -, hρ, hL⟩
                            · have u0 : ρ 0 = .pointer (some ⟨fb, 0, none⟩) := hS.fix 0 (by decide)
                              clear hS hρ
                              obtain ⟨base, rfl⟩ := Has.base (ρ := ρ) (l := [(0, .pointer (some ⟨fb, 0, none⟩))]) ⟨u0, trivial⟩
                              clear u0
                              refine RL.perm (L' := ((Lr5) ++ (([(fb, cel 53 [.slice A l.length c, .int .i64 arg, .int .i64 ((t.pc : Int) + 1), .slice A5 t.st.dropLast.length cp5, .bool false, .bool false])]) ++ (([(b6, cel 30 (⟨0, 0, 0, 0, 0⟩ : Ev).cells)]) ++ ([(b8, cel 27 x.cells)]))))) rfl hL.symm ?_
                              clear hL
                              refine RL.move rfl ?_
                              refine RL.nil ?_
                              exact ⟨rfl, ⟨_, rfl, rfl⟩, .inl ⟨e9, trivial, trivial, List.Perm.refl _⟩⟩
                            · exact hS.hi 9 rfl (by kernel_rfl) e9
                          · intro ρ L D hS
                            rcases hS.sp with ⟨e9, -, hρ, hL⟩ | ⟨e9, -, hρ, hL⟩
                            · have u94 : ρ 94 = .pointer (some ⟨fb, 0, none⟩) := hS.dep ⟨0, Ground.data⟩ (by simp) rfl _ _ rfl rfl
                              clear hS hρ
                              obtain ⟨base, rfl⟩ := Has.base (ρ := ρ) (l := [(94, .pointer (some ⟨fb, 0, none⟩))]) ⟨u94, trivial⟩
                              clear u94
                              refine RL.perm (L' := ((Lr5) ++ (([(fb, cel 53 [.slice A l.length c, .int .i64 arg, .int .i64 ((t.pc : Int) + 1), .slice A5 t.st.dropLast.length cp5, .bool false, .bool false])]) ++ (([(b6, cel 30 (⟨0, 0, 0, 0, 0⟩ : Ev).cells)]) ++ ([(b8, cel 27 x.cells)]))))) rfl hL.symm ?_
                              clear hL
                              refine RL.nilCheck rfl rfl ?_
                              refine RL.nil ?_
                              exact ⟨rfl, ⟨_, rfl, rfl⟩, .inl ⟨e9, trivial, trivial, List.Perm.refl _⟩⟩
                            · exact hS.hi 9 rfl (by kernel_rfl) e9
                          · intro ρ L D hS
                            rcases hS.sp with ⟨e9, -, hρ, hL⟩ | ⟨e9, -, hρ, hL⟩
                            · have u95 : ρ 95 = .pointer (some ⟨fb, 0, none⟩) := hS.dep ⟨1, Ground.data⟩ (by simp) rfl _ _ rfl rfl
                              clear hS hρ
                              obtain ⟨base, rfl⟩ := Has.base (ρ := ρ) (l := [(95, .pointer (some ⟨fb, 0, none⟩))]) ⟨u95, trivial⟩
                              clear u95
                              refine RL.perm (L' := ((Lr5) ++ (([(fb, cel 53 [.slice A l.length c, .int .i64 arg, .int .i64 ((t.pc : Int) + 1), .slice A5 t.st.dropLast.length cp5, .bool false, .bool false])]) ++ (([(b6, cel 30 (⟨0, 0, 0, 0, 0⟩ : Ev).cells)]) ++ ([(b8, cel 27 x.cells)]))))) rfl hL.symm ?_
                              clear hL
                              refine RL.fieldAddr rfl fd53_2 rfl ?_
                              refine RL.nil ?_
                              exact ⟨rfl, ⟨_, rfl, rfl⟩, .inl ⟨e9, trivial, trivial, List.Perm.refl _⟩⟩
                            · exact hS.hi 9 rfl (by kernel_rfl) e9
                          · intro ρ L D hS
                            rcases hS.sp with ⟨e9, -, hρ, hL⟩ | ⟨e9, -, hρ, hL⟩
                            · have u96 : ρ 96 = .pointer (some ⟨fb, 0 + 2, none⟩) := hS.dep ⟨2, Ground.data⟩ (by simp) rfl _ _ rfl rfl
                              clear hS hρ
                              obtain ⟨base, rfl⟩ := Has.base (ρ := ρ) (l := [(96, .pointer (some ⟨fb, 0 + 2, none⟩))]) ⟨u96, trivial⟩
                              clear u96
                              refine RL.perm (L' := ((Lr5) ++ (([(fb, cel 53 [.slice A l.length c, .int .i64 arg, .int .i64 ((t.pc : Int) + 1), .slice A5 t.st.dropLast.length cp5, .bool false, .bool false])]) ++ (([(b6, cel 30 (⟨0, 0, 0, 0, 0⟩ : Ev).cells)]) ++ ([(b8, cel 27 x.cells)]))))) rfl hL.symm ?_
                              clear hL
                              refine RL.loadO rfl sc3 rfl rfl ?_
                              refine RL.nil ?_
                              exact ⟨rfl, ⟨_, rfl, rfl⟩, .inl ⟨e9, trivial, trivial, List.Perm.refl _⟩⟩
                            · exact hS.hi 9 rfl (by kernel_rfl) e9
                          · intro ρ L D hS
                            rcases hS.sp with ⟨e9, -, hρ, hL⟩ | ⟨e9, -, hρ, hL⟩
                            · have u8 : ρ 8 = .pointer (some ⟨b8, 0, none⟩) := hS.fix 8 (by decide)
                              clear hS hρ
                              obtain ⟨base, rfl⟩ := Has.base (ρ := ρ) (l := [(8, .pointer (some ⟨b8, 0, none⟩))]) ⟨u8, trivial⟩
                              clear u8
                              refine RL.perm (L' := ((Lr5) ++ (([(fb, cel 53 [.slice A l.length c, .int .i64 arg, .int .i64 ((t.pc : Int) + 1), .slice A5 t.st.dropLast.length cp5, .bool false, .bool false])]) ++ (([(b6, cel 30 (⟨0, 0, 0, 0, 0⟩ : Ev).cells)]) ++ ([(b8, cel 27 x.cells)]))))) rfl hL.symm ?_
                              clear hL
                              refine RL.fieldAddr rfl fd27_1 rfl ?_
                              refine RL.nil ?_
                              exact ⟨rfl, ⟨_, rfl, rfl⟩, .inl ⟨e9, trivial, trivial, List.Perm.refl _⟩⟩
                            · exact hS.hi 9 rfl (by kernel_rfl) e9
                          · intro ρ L D hS
                            rcases hS.sp with ⟨e9, -, hρ, hL⟩ | ⟨e9, -, hρ, hL⟩
                            · have u98 : ρ 98 = .pointer (some ⟨b8, 0 + 1, none⟩) := hS.dep ⟨4, Ground.data⟩ (by simp) rfl _ _ rfl rfl
                              clear hS hρ
                              obtain ⟨base, rfl⟩ := Has.base (ρ := ρ) (l := [(98, .pointer (some ⟨b8, 0 + 1, none⟩))]) ⟨u98, trivial⟩
                              clear u98
                              refine RL.perm (L' := ((Lr5) ++ (([(fb, cel 53 [.slice A l.length c, .int .i64 arg, .int .i64 ((t.pc : Int) + 1), .slice A5 t.st.dropLast.length cp5, .bool false, .bool false])]) ++ (([(b6, cel 30 (⟨0, 0, 0, 0, 0⟩ : Ev).cells)]) ++ ([(b8, cel 27 x.cells)]))))) rfl hL.symm ?_
                              clear hL
                              refine RL.loadO rfl sc3 rfl rfl ?_
                              refine RL.nil ?_
                              exact ⟨rfl, ⟨_, rfl, rfl⟩, .inl ⟨e9, trivial, trivial, List.Perm.refl _⟩⟩
                            · exact hS.hi 9 rfl (by kernel_rfl) e9
                          · intro ρ L D hS
                            rcases hS.sp with ⟨e9, -, hρ, hL⟩ | ⟨e9, -, hρ, hL⟩
                            · have u97 : ρ 97 = .int .i64 ((t.pc : Int) + 1) := hS.dep ⟨3, Ground.data⟩ (by simp) rfl _ _ rfl rfl
                              have u99 : ρ 99 = .int .i64 x.a := hS.dep ⟨5, Ground.data⟩ (by simp) rfl _ _ rfl rfl
                              clear hS hρ
                              obtain ⟨base, rfl⟩ := Has.base (ρ := ρ) (l := [(97, .int .i64 ((t.pc : Int) + 1)), (99, .int .i64 x.a)]) ⟨u97, u99, trivial⟩
                              clear u97 u99
                              refine RL.perm (L' := ((Lr5) ++ (([(fb, cel 53 [.slice A l.length c, .int .i64 arg, .int .i64 ((t.pc : Int) + 1), .slice A5 t.st.dropLast.length cp5, .bool false, .bool false])]) ++ (([(b6, cel 30 (⟨0, 0, 0, 0, 0⟩ : Ev).cells)]) ++ ([(b8, cel 27 x.cells)]))))) rfl hL.symm ?_
                              clear hL
                              refine RL.add rfl rfl rfl (by omega) ?_
                              rw [show ((t.pc : Int) + 1) + x.a = (((t.pc + 1 + x.a.toNat : Nat)) : Int) from by omega]
                              refine RL.nil ?_
                              exact ⟨rfl, ⟨_, rfl, rfl⟩, .inl ⟨e9, trivial, trivial, List.Perm.refl _⟩⟩
                            · exact hS.hi 9 rfl (by kernel_rfl) e9
                          · intro ρ L D hS
                            rcases hS.sp with ⟨e9, -, hρ, hL⟩ | ⟨e9, -, hρ, hL⟩
                            · have u94 : ρ 94 = .pointer (some ⟨fb, 0, none⟩) := hS.dep ⟨0, Ground.data⟩ (by simp) rfl _ _ rfl rfl
                              clear hS hρ
                              obtain ⟨base, rfl⟩ := Has.base (ρ := ρ) (l := [(94, .pointer (some ⟨fb, 0, none⟩))]) ⟨u94, trivial⟩
                              clear u94
                              refine RL.perm (L' := ((Lr5) ++ (([(fb, cel 53 [.slice A l.length c, .int .i64 arg, .int .i64 ((t.pc : Int) + 1), .slice A5 t.st.dropLast.length cp5, .bool false, .bool false])]) ++ (([(b6, cel 30 (⟨0, 0, 0, 0, 0⟩ : Ev).cells)]) ++ ([(b8, cel 27 x.cells)]))))) rfl hL.symm ?_
                              clear hL
                              refine RL.nilCheck rfl rfl ?_
                              refine RL.nil ?_
                              exact ⟨rfl, ⟨_, rfl, rfl⟩, .inl ⟨e9, trivial, trivial, List.Perm.refl _⟩⟩
                            · exact hS.hi 9 rfl (by kernel_rfl) e9
                          · intro ρ L D hS
                            rcases hS.sp with ⟨e9, -, hρ, hL⟩ | ⟨e9, -, hρ, hL⟩
                            · have u101 : ρ 101 = .pointer (some ⟨fb, 0, none⟩) := hS.dep ⟨7, Ground.data⟩ (by simp) rfl _ _ rfl rfl
                              clear hS hρ
                              obtain ⟨base, rfl⟩ := Has.base (ρ := ρ) (l := [(101, .pointer (some ⟨fb, 0, none⟩))]) ⟨u101, trivial⟩
                              clear u101
                              refine RL.perm (L' := ((Lr5) ++ (([(fb, cel 53 [.slice A l.length c, .int .i64 arg, .int .i64 ((t.pc : Int) + 1), .slice A5 t.st.dropLast.length cp5, .bool false, .bool false])]) ++ (([(b6, cel 30 (⟨0, 0, 0, 0, 0⟩ : Ev).cells)]) ++ ([(b8, cel 27 x.cells)]))))) rfl hL.symm ?_
                              clear hL
                              refine RL.fieldAddr rfl fd53_2 rfl ?_
                              refine RL.nil ?_
                              exact ⟨rfl, ⟨_, rfl, rfl⟩, .inl ⟨e9, trivial, trivial, List.Perm.refl _⟩⟩
                            · exact hS.hi 9 rfl (by kernel_rfl) e9
                          · intro ρ L D hS
                            rcases hS.sp with ⟨e9, -, hρ, hL⟩ | ⟨e9, -, hρ, hL⟩
                            · have u100 : ρ 100 = .int .i64 (((t.pc + 1 + x.a.toNat : Nat)) : Int) := hS.dep ⟨6, Ground.data⟩ (by simp) rfl _ _ rfl rfl
                              have u102 : ρ 102 = .pointer (some ⟨fb, 0 + 2, none⟩) := hS.dep ⟨8, Ground.data⟩ (by simp) rfl _ _ rfl rfl
                              clear hS hρ
                              obtain ⟨base, rfl⟩ := Has.base (ρ := ρ) (l := [(100, .int .i64 (((t.pc + 1 + x.a.toNat : Nat)) : Int)), (102, .pointer (some ⟨fb, 0 + 2, none⟩))]) ⟨u100, u102, trivial⟩
                              clear u100 u102
                              refine RL.perm (L' := ((Lr5) ++ (([(fb, cel 53 [.slice A l.length c, .int .i64 arg, .int .i64 ((t.pc : Int) + 1), .slice A5 t.st.dropLast.length cp5, .bool false, .bool false])]) ++ (([(b6, cel 30 (⟨0, 0, 0, 0, 0⟩ : Ev).cells)]) ++ ([(b8, cel 27 x.cells)]))))) rfl hL.symm ?_
                              clear hL
                              refine RL.stI rfl rfl sc3.size rfl rfl (by simp) ?_
                              refine RL.nil ?_
                              exact ⟨rfl, ⟨_, rfl, trivial⟩, .inr (⟨rfl, trivial, trivial, (by classical exact List.perm_iff_count.2 (fun z => by simp only [List.count_append, List.count_cons, List.count_nil, List.cons_append, List.nil_append, List.append_nil, List.set_cons_zero, List.set_cons_succ] <;> omega))⟩)⟩
                            · exact hS.me e9
                          · intro ρ L D hD hT hfix hsp
                            rcases hsp with ⟨e9, -, hρ, hL⟩ | ⟨e9, -, hρ, hL⟩
                            · exact done_no hD 9 rfl e9
                            · have u0 : ρ 0 = .pointer (some ⟨fb, 0, none⟩) := hfix 0 (by decide)
                              have u2 : ρ 2 = .int .i64 u := hfix 2 (by decide)
                              have u6 : ρ 6 = .pointer (some ⟨b6, 0, none⟩) := hfix 6 (by decide)
                              have u8 : ρ 8 = .pointer (some ⟨b8, 0, none⟩) := hfix 8 (by decide)
                              clear hT hfix hD hρ
                              obtain ⟨base, rfl⟩ := Has.base (ρ := ρ) (l := [(0, .pointer (some ⟨fb, 0, none⟩)), (2, .int .i64 u), (6, .pointer (some ⟨b6, 0, none⟩)), (8, .pointer (some ⟨b8, 0, none⟩))]) ⟨u0, u2, u6, u8, trivial⟩
                              clear u0 u2 u6 u8
                              refine ⟨_, hL.symm, ((Lr5) ++ (([(fb, cel 53 [.slice A l.length c, .int .i64 arg, .int .i64 (((t.pc + 1 + x.a.toNat : Nat)) : Int), .slice A5 t.st.dropLast.length cp5, .bool false, .bool false])]) ++ (([(b6, cel 30 (⟨0, 0, 0, 0, 0⟩ : Ev).cells)]) ++ ([(b8, cel 27 x.cells)])))), List.Sublist.append (List.Sublist.refl _) (List.Sublist.append (List.Sublist.refl _) (List.Sublist.append (List.Sublist.refl _) (List.Sublist.refl _))), ?_⟩
                              refine X.blk ?_
                              refine X.blk ?_
                              have hn := hwk2.next hv hx hst
                              have hrn := runN_go (n := m) hx.ins hst
                              rw [hrun] at hrn
                              refine X.hyp ⟨rfl, m, by omega, _, (List.Sublist.append (List.Sublist.refl _) (.cons_cons _ (.cons_cons _ (List.nil_sublist _)))), u, ⟨t.pc + 1 + x.a.toNat, t.st.dropLast, false, false⟩, A5, cp5, Lr5, (by have := hn.2; dsimp only at this ⊢; omega), hn.1, hrn.symm, hr5, ⟨rfl, rfl, rfl, trivial⟩, rfl⟩
                        · replace hz : ¬ ((_ : Int) = _) := hz
                          have hst : stepI x arg u t = .go u ⟨t.pc + 1, t.st.dropLast, false, false⟩ := by unfold stepI; simp [hk7, hz]
                          refine RL.nil ?_
                          refine X.cond_f rfl ?_
                          refine X.skip ?_
                          refine X.blk ?_
                          refine X.blk ?_
                          have hn := hwk2.next hv hx hst
                          have hrn := runN_go (n := m) hx.ins hst
                          rw [hrun] at hrn
                          refine X.hyp ⟨rfl, m, by omega, _, (List.Sublist.append (List.Sublist.refl _) (.cons_cons _ (.cons_cons _ (List.nil_sublist _)))), u, ⟨t.pc + 1, t.st.dropLast, false, false⟩, A5, cp5, Lr5, (by have := hn.2; dsimp only at this ⊢; omega), hn.1, hrn.symm, hr5, ⟨rfl, rfl, rfl, trivial⟩, rfl⟩
                      · replace hk7 : ¬ ((_ : Int) = _) := hk7
                        refine RL.assign rfl ?_
                        refine RL.nil ?_
                        refine X.cond_f rfl ?_
                        refine X.seq ?_
                        refine X.region rfl ?_
                        refine RL.cmp_s rfl rfl rfl rfl (fun hk8 => ?_) (fun hk8 => ?_)
                        · replace hk8 : (_ : Int) = _ := hk8
                          have htk1 : 1 ≤ t.st.length := by rw [hk8, show takeP 8 = 1 from rfl] at htk; omega
                          have hst : stepI x arg u t = .stop ⟨2, x.a, x.b, top t.st, 0⟩ u ⟨t.pc + 1, t.st.dropLast, true, false⟩ := by unfold stepI; simp [hk8]
                          refine RL.assign rfl ?_
                          refine RL.nil ?_
                          refine X.cond_t rfl ?_
                          refine X.seq ?_
                          refine X.region rfl ?_
                          refine RL.move rfl ?_
                          refine RL.nilCheck rfl rfl ?_
                          refine RL.fieldAddr rfl fd53_4 rfl ?_
                          refine RL.stB rfl rfl sc4.size rfl rfl (by first | exact Nat.zero_lt_one | decide | simp) ?_
                          refine RL.nil ?_
                          refine X.seq ?_
                          refine X.set [.val (.pointer (some ⟨b8, 0 + 1, none⟩)), .val (.int .i64 x.a), .val (.pointer (some ⟨b8, 0 + 2, none⟩)), .val (.int .i64 x.b), .val (.pointer (some ⟨fb, 0, none⟩)), .any, .val (.agg (⟨2, x.a, x.b, top t.st, 0⟩ : Ev).cells.toArray), .val (.int .i64 u), .any, .val (.int .i64 u)] [[], [0], [], [2], [], [4], [0, 1, 2, 3, 4, 5], [], [0, 1, 2, 3, 4, 5, 6], [0, 1, 2, 3, 4, 5, 6, 7, 8]] (fun D ρ L => (D 5 = false ∧ D 8 = false ∧ True ∧ Has ρ [] ∧ L.Perm ((Lr4) ++ (([(fb, cel 53 [.slice A l.length c, .int .i64 arg, .int .i64 ((t.pc : Int) + 1), .slice A4 t.st.length cp4, .bool true, .bool false])]) ++ (([(b6, cel 30 (⟨0, 0, 0, 0, 0⟩ : Ev).cells)]) ++ ([(b8, cel 27 x.cells)]))))) ∨ (D 5 = true ∧ D 8 = false ∧ True ∧ ∃ A6 : Option Addr, ∃ cp6 : Nat, ∃ Lr6 : List Ent, (Row 2 1 (.slice A6 t.st.dropLast.length cp6) (ints t.st.dropLast) Lr6) ∧ Has ρ [(113, .int .i64 (top t.st))] ∧ L.Perm ((Lr6) ++ (([(fb, cel 53 [.slice A l.length c, .int .i64 arg, .int .i64 ((t.pc : Int) + 1), .slice A6 t.st.dropLast.length cp6, .bool true, .bool false])]) ++ (([(b6, cel 30 (⟨0, 0, 0, 0, 0⟩ : Ev).cells)]) ++ ([(b8, cel 27 x.cells)]))))) ∨ (D 5 = true ∧ D 8 = true ∧ True ∧ ∃ A6 : Option Addr, ∃ cp6 : Nat, ∃ Lr6 : List Ent, (Row 2 1 (.slice A6 t.st.dropLast.length cp6) (ints t.st.dropLast) Lr6) ∧ Has ρ [(113, .int .i64 (top t.st))] ∧ L.Perm ((Lr6) ++ (([(fb, cel 53 [.slice A l.length c, .int .i64 arg, .int .i64 ((t.pc : Int) + 1), .slice A6 t.st.dropLast.length cp6, .bool true, .bool false])]) ++ (([(b6, cel 30 (⟨2, x.a, x.b, top t.st, 0⟩ : Ev).cells)]) ++ ([(b8, cel 27 x.cells)])))))) rfl (by kernel_rfl) (by kernel_rfl) (by kernel_rfl) (by kernel_rfl) (fun D hD => .inl ⟨hD 5, hD 8, trivial, trivial, (List.Perm.refl _)⟩) ⟨?_, ?_, ?_, ?_, ?_, ?_, ?_, ?_, ?_, ?_, trivial⟩ ?_
                          · intro ρ L D hS
                            rcases hS.sp with ⟨e5, e8, -, hρ, hL⟩ | ⟨e5, e8, -, A6, cp6, Lr6, hp0, hρ, hL⟩ | ⟨e5, e8, -, A6, cp6, Lr6, hp0, hρ, hL⟩
                            · have u8 : ρ 8 = .pointer (some ⟨b8, 0, none⟩) := hS.fix 8 (by decide)
                              clear hS hρ
                              obtain ⟨base, rfl⟩ := Has.base (ρ := ρ) (l := [(8, .pointer (some ⟨b8, 0, none⟩))]) ⟨u8, trivial⟩
                              clear u8
                              refine RL.perm (L' := ((Lr4) ++ (([(fb, cel 53 [.slice A l.length c, .int .i64 arg, .int .i64 ((t.pc : Int) + 1), .slice A4 t.st.length cp4, .bool true, .bool false])]) ++ (([(b6, cel 30 (⟨0, 0, 0, 0, 0⟩ : Ev).cells)]) ++ ([(b8, cel 27 x.cells)]))))) rfl hL.symm ?_
                              clear hL
                              refine RL.fieldAddr rfl fd27_1 rfl ?_
                              refine RL.nil ?_
                              exact ⟨rfl, ⟨_, rfl, rfl⟩, .inl ⟨e5, e8, trivial, trivial, List.Perm.refl _⟩⟩
                            · have u8 : ρ 8 = .pointer (some ⟨b8, 0, none⟩) := hS.fix 8 (by decide)
                              have u113 : ρ 113 = .int .i64 (top t.st) := hρ.1
                              clear hS hρ
                              obtain ⟨base, rfl⟩ := Has.base (ρ := ρ) (l := [(8, .pointer (some ⟨b8, 0, none⟩)), (113, .int .i64 (top t.st))]) ⟨u8, u113, trivial⟩
                              clear u8 u113
                              refine RL.perm (L' := ((Lr6) ++ (([(fb, cel 53 [.slice A l.length c, .int .i64 arg, .int .i64 ((t.pc : Int) + 1), .slice A6 t.st.dropLast.length cp6, .bool true, .bool false])]) ++ (([(b6, cel 30 (⟨0, 0, 0, 0, 0⟩ : Ev).cells)]) ++ ([(b8, cel 27 x.cells)]))))) rfl hL.symm ?_
                              clear hL
                              refine RL.fieldAddr rfl fd27_1 rfl ?_
                              refine RL.nil ?_
                              exact ⟨rfl, ⟨_, rfl, rfl⟩, .inr (.inl ⟨e5, e8, trivial, A6, cp6, Lr6, hp0, ⟨rfl, trivial⟩, List.Perm.refl _⟩)⟩
                            · exact hS.hi 8 rfl (by kernel_rfl) e8
                          · intro ρ L D hS
                            rcases hS.sp with ⟨e5, e8, -, hρ, hL⟩ | ⟨e5, e8, -, A6, cp6, Lr6, hp0, hρ, hL⟩ | ⟨e5, e8, -, A6, cp6, Lr6, hp0, hρ, hL⟩
                            · have u108 : ρ 108 = .pointer (some ⟨b8, 0 + 1, none⟩) := hS.dep ⟨0, Ground.data⟩ (by simp) rfl _ _ rfl rfl
                              clear hS hρ
                              obtain ⟨base, rfl⟩ := Has.base (ρ := ρ) (l := [(108, .pointer (some ⟨b8, 0 + 1, none⟩))]) ⟨u108, trivial⟩
                              clear u108
                              refine RL.perm (L' := ((Lr4) ++ (([(fb, cel 53 [.slice A l.length c, .int .i64 arg, .int .i64 ((t.pc : Int) + 1), .slice A4 t.st.length cp4, .bool true, .bool false])]) ++ (([(b6, cel 30 (⟨0, 0, 0, 0, 0⟩ : Ev).cells)]) ++ ([(b8, cel 27 x.cells)]))))) rfl hL.symm ?_
                              clear hL
                              refine RL.loadO rfl sc3 rfl rfl ?_
                              refine RL.nil ?_
                              exact ⟨rfl, ⟨_, rfl, rfl⟩, .inl ⟨e5, e8, trivial, trivial, List.Perm.refl _⟩⟩
                            · have u108 : ρ 108 = .pointer (some ⟨b8, 0 + 1, none⟩) := hS.dep ⟨0, Ground.data⟩ (by simp) rfl _ _ rfl rfl
                              have u113 : ρ 113 = .int .i64 (top t.st) := hρ.1
                              clear hS hρ
                              obtain ⟨base, rfl⟩ := Has.base (ρ := ρ) (l := [(108, .pointer (some ⟨b8, 0 + 1, none⟩)), (113, .int .i64 (top t.st))]) ⟨u108, u113, trivial⟩
                              clear u108 u113
                              refine RL.perm (L' := ((Lr6) ++ (([(fb, cel 53 [.slice A l.length c, .int .i64 arg, .int .i64 ((t.pc : Int) + 1), .slice A6 t.st.dropLast.length cp6, .bool true, .bool false])]) ++ (([(b6, cel 30 (⟨0, 0, 0, 0, 0⟩ : Ev).cells)]) ++ ([(b8, cel 27 x.cells)]))))) rfl hL.symm ?_
                              clear hL
                              refine RL.loadO rfl sc3 rfl rfl ?_
                              refine RL.nil ?_
                              exact ⟨rfl, ⟨_, rfl, rfl⟩, .inr (.inl ⟨e5, e8, trivial, A6, cp6, Lr6, hp0, ⟨rfl, trivial⟩, List.Perm.refl _⟩)⟩
                            · exact hS.hi 8 rfl (by kernel_rfl) e8
                          · intro ρ L D hS
                            rcases hS.sp with ⟨e5, e8, -, hρ, hL⟩ | ⟨e5, e8, -, A6, cp6, Lr6, hp0, hρ, hL⟩ | ⟨e5, e8, -, A6, cp6, Lr6, hp0, hρ, hL⟩
                            · have u8 : ρ 8 = .pointer (some ⟨b8, 0, none⟩) := hS.fix 8 (by decide)
                              clear hS hρ
                              obtain ⟨base, rfl⟩ := Has.base (ρ := ρ) (l := [(8, .pointer (some ⟨b8, 0, none⟩))]) ⟨u8, trivial⟩
                              clear u8
                              refine RL.perm (L' := ((Lr4) ++ (([(fb, cel 53 [.slice A l.length c, .int .i64 arg, .int .i64 ((t.pc : Int) + 1), .slice A4 t.st.length cp4, .bool true, .bool false])]) ++ (([(b6, cel 30 (⟨0, 0, 0, 0, 0⟩ : Ev).cells)]) ++ ([(b8, cel 27 x.cells)]))))) rfl hL.symm ?_
                              clear hL
                              refine RL.fieldAddr rfl fd27_2 rfl ?_
                              refine RL.nil ?_
                              exact ⟨rfl, ⟨_, rfl, rfl⟩, .inl ⟨e5, e8, trivial, trivial, List.Perm.refl _⟩⟩
                            · have u8 : ρ 8 = .pointer (some ⟨b8, 0, none⟩) := hS.fix 8 (by decide)
                              have u113 : ρ 113 = .int .i64 (top t.st) := hρ.1
                              clear hS hρ
                              obtain ⟨base, rfl⟩ := Has.base (ρ := ρ) (l := [(8, .pointer (some ⟨b8, 0, none⟩)), (113, .int .i64 (top t.st))]) ⟨u8, u113, trivial⟩
                              clear u8 u113
                              refine RL.perm (L' := ((Lr6) ++ (([(fb, cel 53 [.slice A l.length c, .int .i64 arg, .int .i64 ((t.pc : Int) + 1), .slice A6 t.st.dropLast.length cp6, .bool true, .bool false])]) ++ (([(b6, cel 30 (⟨0, 0, 0, 0, 0⟩ : Ev).cells)]) ++ ([(b8, cel 27 x.cells)]))))) rfl hL.symm ?_
                              clear hL
                              refine RL.fieldAddr rfl fd27_2 rfl ?_
                              refine RL.nil ?_
                              exact ⟨rfl, ⟨_, rfl, rfl⟩, .inr (.inl ⟨e5, e8, trivial, A6, cp6, Lr6, hp0, ⟨rfl, trivial⟩, List.Perm.refl _⟩)⟩
                            · exact hS.hi 8 rfl (by kernel_rfl) e8
                          · intro ρ L D hS
                            rcases hS.sp with ⟨e5, e8, -, hρ, hL⟩ | ⟨e5, e8, -, A6, cp6, Lr6, hp0, hρ, hL⟩ | ⟨e5, e8, -, A6, cp6, Lr6, hp0, hρ, hL⟩
                            · have u110 : ρ 110 = .pointer (some ⟨b8, 0 + 2, none⟩) := hS.dep ⟨2, Ground.data⟩ (by simp) rfl _ _ rfl rfl
                              clear hS hρ
                              obtain ⟨base, rfl⟩ := Has.base (ρ := ρ) (l := [(110, .pointer (some ⟨b8, 0 + 2, none⟩))]) ⟨u110, trivial⟩
                              clear u110
                              refine RL.perm (L' := ((Lr4) ++ (([(fb, cel 53 [.slice A l.length c, .int .i64 arg, .int .i64 ((t.pc : Int) + 1), .slice A4 t.st.length cp4, .bool true, .bool false])]) ++ (([(b6, cel 30 (⟨0, 0, 0, 0, 0⟩ : Ev).cells)]) ++ ([(b8, cel 27 x.cells)]))))) rfl hL.symm ?_
                              clear hL
                              refine RL.loadO rfl sc3 rfl rfl ?_
                              refine RL.nil ?_
                              exact ⟨rfl, ⟨_, rfl, rfl⟩, .inl ⟨e5, e8, trivial, trivial, List.Perm.refl _⟩⟩
                            · have u110 : ρ 110 = .pointer (some ⟨b8, 0 + 2, none⟩) := hS.dep ⟨2, Ground.data⟩ (by simp) rfl _ _ rfl rfl
                              have u113 : ρ 113 = .int .i64 (top t.st) := hρ.1
                              clear hS hρ
                              obtain ⟨base, rfl⟩ := Has.base (ρ := ρ) (l := [(110, .pointer (some ⟨b8, 0 + 2, none⟩)), (113, .int .i64 (top t.st))]) ⟨u110, u113, trivial⟩
                              clear u110 u113
                              refine RL.perm (L' := ((Lr6) ++ (([(fb, cel 53 [.slice A l.length c, .int .i64 arg, .int .i64 ((t.pc : Int) + 1), .slice A6 t.st.dropLast.length cp6, .bool true, .bool false])]) ++ (([(b6, cel 30 (⟨0, 0, 0, 0, 0⟩ : Ev).cells)]) ++ ([(b8, cel 27 x.cells)]))))) rfl hL.symm ?_
                              clear hL
                              refine RL.loadO rfl sc3 rfl rfl ?_
                              refine RL.nil ?_
                              exact ⟨rfl, ⟨_, rfl, rfl⟩, .inr (.inl ⟨e5, e8, trivial, A6, cp6, Lr6, hp0, ⟨rfl, trivial⟩, List.Perm.refl _⟩)⟩
                            · exact hS.hi 8 rfl (by kernel_rfl) e8
                          · intro ρ L D hS
                            rcases hS.sp with ⟨e5, e8, -, hρ, hL⟩ | ⟨e5, e8, -, A6, cp6, Lr6, hp0, hρ, hL⟩ | ⟨e5, e8, -, A6, cp6, Lr6, hp0, hρ, hL⟩
                            · have u0 : ρ 0 = .pointer (some ⟨fb, 0, none⟩) := hS.fix 0 (by decide)
                              clear hS hρ
                              obtain ⟨base, rfl⟩ := Has.base (ρ := ρ) (l := [(0, .pointer (some ⟨fb, 0, none⟩))]) ⟨u0, trivial⟩
                              clear u0
                              refine RL.perm (L' := ((Lr4) ++ (([(fb, cel 53 [.slice A l.length c, .int .i64 arg, .int .i64 ((t.pc : Int) + 1), .slice A4 t.st.length cp4, .bool true, .bool false])]) ++ (([(b6, cel 30 (⟨0, 0, 0, 0, 0⟩ : Ev).cells)]) ++ ([(b8, cel 27 x.cells)]))))) rfl hL.symm ?_
                              clear hL
                              refine RL.move rfl ?_
                              refine RL.nil ?_
                              exact ⟨rfl, ⟨_, rfl, rfl⟩, .inl ⟨e5, e8, trivial, trivial, List.Perm.refl _⟩⟩
                            · exact hS.hi 5 rfl (by kernel_rfl) e5
                            · exact hS.hi 5 rfl (by kernel_rfl) e5
                          · intro ρ L D hS
                            rcases hS.sp with ⟨e5, e8, -, hρ, hL⟩ | ⟨e5, e8, -, A6, cp6, Lr6, hp0, hρ, hL⟩ | ⟨e5, e8, -, A6, cp6, Lr6, hp0, hρ, hL⟩
                            · have u112 : ρ 112 = .pointer (some ⟨fb, 0, none⟩) := hS.dep ⟨4, Ground.data⟩ (by simp) rfl _ _ rfl rfl
                              clear hS hρ
                              obtain ⟨base, rfl⟩ := Has.base (ρ := ρ) (l := [(112, .pointer (some ⟨fb, 0, none⟩))]) ⟨u112, trivial⟩
                              clear u112
                              refine RL.perm (L' := ((Lr4) ++ (([(fb, cel 53 [.slice A l.length c, .int .i64 arg, .int .i64 ((t.pc : Int) + 1), .slice A4 t.st.length cp4, .bool true, .bool false])]) ++ (([(b6, cel 30 (⟨0, 0, 0, 0, 0⟩ : Ev).cells)]) ++ ([(b8, cel 27 x.cells)]))))) rfl hL.symm ?_
                              clear hL
                              refine RL.fn (Lp := Lr4 ++ [(fb, cel 53 [.slice A l.length c, .int .i64 arg, .int .i64 ((t.pc : Int) + 1), .slice A4 t.st.length cp4, .bool true, .bool false])]) (Lr := [(b6, cel 30 (⟨0, 0, 0, 0, 0⟩ : Ev).cells), (b8, cel 27 x.cells)]) rfl rfl rfl en20 (by classical exact List.perm_iff_count.2 (fun z => by simp only [List.count_append, List.count_cons, List.count_nil, List.cons_append, List.nil_append, List.set_cons_zero, List.set_cons_succ] <;> omega)) (fun w1 hw1 => f_take fb (.slice A l.length c) (.int .i64 arg) (.int .i64 ((t.pc : Int) + 1)) (.bool true) (.bool false) (t.st) A4 cp4 (Lr4) hr4 (by simp only [List.length_append, List.length_dropLast, List.length_cons, List.length_nil] at *; omega) (by simp only [List.length_append, List.length_dropLast, List.length_cons, List.length_nil] at *; omega) w1 (fun p hp => hw1.own p (List.mem_append_left _ hp)) (hw1.nodup.sublist ((List.sublist_append_left _ _).map _))) rfl ?_
                              rintro _ _ ⟨rfl, A6, cp6, Lr6, hr6, hs6⟩
                              refine RL.drop (L' := Lr6 ++ ((fb, cel 53 [.slice A l.length c, .int .i64 arg, .int .i64 ((t.pc : Int) + 1), .slice A6 t.st.dropLast.length cp6, .bool true, .bool false]) :: [(b6, cel 30 (⟨0, 0, 0, 0, 0⟩ : Ev).cells), (b8, cel 27 x.cells)])) rfl ?_ ?_
                              · have := hs6.append (List.Sublist.refl ([(b6, cel 30 (⟨0, 0, 0, 0, 0⟩ : Ev).cells), (b8, cel 27 x.cells)]))
                                rwa [List.append_assoc] at this
                              refine RL.nil ?_
                              exact ⟨rfl, ⟨_, rfl, trivial⟩, .inr (.inl ⟨rfl, e8, trivial, A6, cp6, Lr6, hr6, ⟨rfl, trivial⟩, (by classical exact List.perm_iff_count.2 (fun z => by simp only [List.count_append, List.count_cons, List.count_nil, List.cons_append, List.nil_append, List.append_nil, List.set_cons_zero, List.set_cons_succ] <;> omega))⟩)⟩
                            · exact hS.me e5
                            · exact hS.hi 8 rfl (by kernel_rfl) e8
                          · intro ρ L D hS
                            rcases hS.sp with ⟨e5, e8, -, hρ, hL⟩ | ⟨e5, e8, -, A6, cp6, Lr6, hp0, hρ, hL⟩ | ⟨e5, e8, -, A6, cp6, Lr6, hp0, hρ, hL⟩
                            · exact hS.lo 5 (by kernel_rfl) e5
                            · have u109 : ρ 109 = .int .i64 x.a := hS.dep ⟨1, Ground.data⟩ (by simp) rfl _ _ rfl rfl
                              have u111 : ρ 111 = .int .i64 x.b := hS.dep ⟨3, Ground.data⟩ (by simp) rfl _ _ rfl rfl
                              have u113 : ρ 113 = .int .i64 (top t.st) := hρ.1
                              clear hS hρ
                              obtain ⟨base, rfl⟩ := Has.base (ρ := ρ) (l := [(109, .int .i64 x.a), (111, .int .i64 x.b), (113, .int .i64 (top t.st))]) ⟨u109, u111, u113, trivial⟩
                              clear u109 u111 u113
                              refine RL.perm (L' := ((Lr6) ++ (([(fb, cel 53 [.slice A l.length c, .int .i64 arg, .int .i64 ((t.pc : Int) + 1), .slice A6 t.st.dropLast.length cp6, .bool true, .bool false])]) ++ (([(b6, cel 30 (⟨0, 0, 0, 0, 0⟩ : Ev).cells)]) ++ ([(b8, cel 27 x.cells)]))))) rfl hL.symm ?_
                              clear hL
                              refine RL.bldC (vs := [(0, .int .i64 (2)), (1, .int .i64 (x.a)), (2, .int .i64 (x.b)), (3, .int .i64 (top t.st))]) (cells := (⟨2, x.a, x.b, top t.st, 0⟩ : Ev).cells) rfl rfl (fun w => by kernel_rfl) ?_
                              refine RL.nil ?_
                              exact ⟨rfl, ⟨_, rfl, rfl⟩, .inr (.inl ⟨e5, e8, trivial, A6, cp6, Lr6, hp0, ⟨rfl, trivial⟩, List.Perm.refl _⟩)⟩
                            · exact hS.hi 8 rfl (by kernel_rfl) e8
                          · intro ρ L D hS
                            rcases hS.sp with ⟨e5, e8, -, hρ, hL⟩ | ⟨e5, e8, -, A6, cp6, Lr6, hp0, hρ, hL⟩ | ⟨e5, e8, -, A6, cp6, Lr6, hp0, hρ, hL⟩
                            · have u2 : ρ 2 = .int .i64 u := hS.fix 2 (by decide)
                              clear hS hρ
                              obtain ⟨base, rfl⟩ := Has.base (ρ := ρ) (l := [(2, .int .i64 u)]) ⟨u2, trivial⟩
                              clear u2
                              refine RL.perm (L' := ((Lr4) ++ (([(fb, cel 53 [.slice A l.length c, .int .i64 arg, .int .i64 ((t.pc : Int) + 1), .slice A4 t.st.length cp4, .bool true, .bool false])]) ++ (([(b6, cel 30 (⟨0, 0, 0, 0, 0⟩ : Ev).cells)]) ++ ([(b8, cel 27 x.cells)]))))) rfl hL.symm ?_
                              clear hL
                              refine RL.move rfl ?_
                              refine RL.nil ?_
                              exact ⟨rfl, ⟨_, rfl, rfl⟩, .inl ⟨e5, e8, trivial, trivial, List.Perm.refl _⟩⟩
                            · have u2 : ρ 2 = .int .i64 u := hS.fix 2 (by decide)
                              have u113 : ρ 113 = .int .i64 (top t.st) := hρ.1
                              clear hS hρ
                              obtain ⟨base, rfl⟩ := Has.base (ρ := ρ) (l := [(2, .int .i64 u), (113, .int .i64 (top t.st))]) ⟨u2, u113, trivial⟩
                              clear u2 u113
                              refine RL.perm (L' := ((Lr6) ++ (([(fb, cel 53 [.slice A l.length c, .int .i64 arg, .int .i64 ((t.pc : Int) + 1), .slice A6 t.st.dropLast.length cp6, .bool true, .bool false])]) ++ (([(b6, cel 30 (⟨0, 0, 0, 0, 0⟩ : Ev).cells)]) ++ ([(b8, cel 27 x.cells)]))))) rfl hL.symm ?_
                              clear hL
                              refine RL.move rfl ?_
                              refine RL.nil ?_
                              exact ⟨rfl, ⟨_, rfl, rfl⟩, .inr (.inl ⟨e5, e8, trivial, A6, cp6, Lr6, hp0, ⟨rfl, trivial⟩, List.Perm.refl _⟩)⟩
                            · have u2 : ρ 2 = .int .i64 u := hS.fix 2 (by decide)
                              have u113 : ρ 113 = .int .i64 (top t.st) := hρ.1
                              clear hS hρ
                              obtain ⟨base, rfl⟩ := Has.base (ρ := ρ) (l := [(2, .int .i64 u), (113, .int .i64 (top t.st))]) ⟨u2, u113, trivial⟩
                              clear u2 u113
                              refine RL.perm (L' := ((Lr6) ++ (([(fb, cel 53 [.slice A l.length c, .int .i64 arg, .int .i64 ((t.pc : Int) + 1), .slice A6 t.st.dropLast.length cp6, .bool true, .bool false])]) ++ (([(b6, cel 30 (⟨2, x.a, x.b, top t.st, 0⟩ : Ev).cells)]) ++ ([(b8, cel 27 x.cells)]))))) rfl hL.symm ?_
                              clear hL
                              refine RL.move rfl ?_
                              refine RL.nil ?_
                              exact ⟨rfl, ⟨_, rfl, rfl⟩, .inr (.inr (⟨e5, e8, trivial, A6, cp6, Lr6, hp0, ⟨rfl, trivial⟩, List.Perm.refl _⟩))⟩
                          · intro ρ L D hS
                            rcases hS.sp with ⟨e5, e8, -, hρ, hL⟩ | ⟨e5, e8, -, A6, cp6, Lr6, hp0, hρ, hL⟩ | ⟨e5, e8, -, A6, cp6, Lr6, hp0, hρ, hL⟩
                            · exact hS.lo 5 (by kernel_rfl) e5
                            · have u6 : ρ 6 = .pointer (some ⟨b6, 0, none⟩) := hS.fix 6 (by decide)
                              have u113 : ρ 113 = .int .i64 (top t.st) := hρ.1
                              have u114 : ρ 114 = .agg (⟨2, x.a, x.b, top t.st, 0⟩ : Ev).cells.toArray := hS.dep ⟨6, Ground.data⟩ (by simp) rfl _ _ rfl rfl
                              clear hS hρ
                              obtain ⟨base, rfl⟩ := Has.base (ρ := ρ) (l := [(6, .pointer (some ⟨b6, 0, none⟩)), (113, .int .i64 (top t.st)), (114, .agg (⟨2, x.a, x.b, top t.st, 0⟩ : Ev).cells.toArray)]) ⟨u6, u113, u114, trivial⟩
                              clear u6 u113 u114
                              refine RL.perm (L' := ((Lr6) ++ (([(fb, cel 53 [.slice A l.length c, .int .i64 arg, .int .i64 ((t.pc : Int) + 1), .slice A6 t.st.dropLast.length cp6, .bool true, .bool false])]) ++ (([(b6, cel 30 (⟨0, 0, 0, 0, 0⟩ : Ev).cells)]) ++ ([(b8, cel 27 x.cells)]))))) rfl hL.symm ?_
                              clear hL
                              refine RL.stA (l := (⟨0, 0, 0, 0, 0⟩ : Ev).cells) rfl rfl ag30.size rfl rfl (Ev.len _) (Ev.len ⟨0, 0, 0, 0, 0⟩) (Ev.one _) ?_
                              refine RL.nil ?_
                              exact ⟨rfl, ⟨_, rfl, trivial⟩, .inr (.inr (⟨e5, rfl, trivial, A6, cp6, Lr6, hp0, ⟨rfl, trivial⟩, (by classical exact List.perm_iff_count.2 (fun z => by simp only [List.count_append, List.count_cons, List.count_nil, List.cons_append, List.nil_append, List.append_nil, List.set_cons_zero, List.set_cons_succ] <;> omega))⟩))⟩
                            · exact hS.me e8
                          · intro ρ L D hS
                            rcases hS.sp with ⟨e5, e8, -, hρ, hL⟩ | ⟨e5, e8, -, A6, cp6, Lr6, hp0, hρ, hL⟩ | ⟨e5, e8, -, A6, cp6, Lr6, hp0, hρ, hL⟩
                            · exact hS.lo 5 (by kernel_rfl) e5
                            · exact hS.lo 8 (by kernel_rfl) e8
                            · have u113 : ρ 113 = .int .i64 (top t.st) := hρ.1
                              have u115 : ρ 115 = .int .i64 u := hS.dep ⟨7, Ground.data⟩ (by simp) rfl _ _ rfl rfl
                              clear hS hρ
                              obtain ⟨base, rfl⟩ := Has.base (ρ := ρ) (l := [(113, .int .i64 (top t.st)), (115, .int .i64 u)]) ⟨u113, u115, trivial⟩
                              clear u113 u115
                              refine RL.perm (L' := ((Lr6) ++ (([(fb, cel 53 [.slice A l.length c, .int .i64 arg, .int .i64 ((t.pc : Int) + 1), .slice A6 t.st.dropLast.length cp6, .bool true, .bool false])]) ++ (([(b6, cel 30 (⟨2, x.a, x.b, top t.st, 0⟩ : Ev).cells)]) ++ ([(b8, cel 27 x.cells)]))))) rfl hL.symm ?_
                              clear hL
                              refine RL.assign rfl ?_
                              refine RL.nil ?_
                              exact ⟨rfl, ⟨_, rfl, rfl⟩, .inr (.inr (⟨e5, e8, trivial, A6, cp6, Lr6, hp0, ⟨rfl, trivial⟩, List.Perm.refl _⟩))⟩
                          · intro ρ L D hD hT hfix hsp
                            rcases hsp with ⟨e5, e8, -, hρ, hL⟩ | ⟨e5, e8, -, A6, cp6, Lr6, hp0, hρ, hL⟩ | ⟨e5, e8, -, A6, cp6, Lr6, hp0, hρ, hL⟩
                            · exact done_no hD 5 rfl e5
                            · exact done_no hD 8 rfl e8
                            · have u6 : ρ 6 = .pointer (some ⟨b6, 0, none⟩) := hfix 6 (by decide)
                              have u7 : ρ 7 = .int .i64 u := hT 9 _ _ rfl rfl
                              have u113 : ρ 113 = .int .i64 (top t.st) := hρ.1
                              clear hT hfix hD hρ
                              obtain ⟨base, rfl⟩ := Has.base (ρ := ρ) (l := [(6, .pointer (some ⟨b6, 0, none⟩)), (7, .int .i64 u), (113, .int .i64 (top t.st))]) ⟨u6, u7, u113, trivial⟩
                              clear u6 u7 u113
                              refine ⟨_, hL.symm, ((Lr6) ++ (([(fb, cel 53 [.slice A l.length c, .int .i64 arg, .int .i64 ((t.pc : Int) + 1), .slice A6 t.st.dropLast.length cp6, .bool true, .bool false])]) ++ (([(b6, cel 30 (⟨2, x.a, x.b, top t.st, 0⟩ : Ev).cells)]) ++ ([(b8, cel 27 x.cells)])))), List.Sublist.append (List.Sublist.refl _) (List.Sublist.append (List.Sublist.refl _) (List.Sublist.append (List.Sublist.refl _) (List.Sublist.refl _))), ?_⟩
                              refine X.ret ?_
                              refine retcA2 rfl ag30 rfl (Ev.len _) ?_
                              rw [← hrun, runN_stop hx.ins hst]
                              exact ⟨rfl, A6, cp6, Lr6, hp0, List.Sublist.append (List.Sublist.refl _) (.cons_cons _ (List.nil_sublist _))⟩
                        · replace hk8 : ¬ ((_ : Int) = _) := hk8
                          refine RL.assign rfl ?_
                          refine RL.nil ?_
                          refine X.cond_f rfl ?_
                          refine X.seq ?_
                          refine X.region rfl ?_
                          refine RL.cmp_s rfl rfl rfl rfl (fun hk9 => ?_) (fun hk9 => ?_)
                          · replace hk9 : (_ : Int) = _ := hk9
                            have hst : stepI x arg u t = .stop ⟨3, x.a, 0, 0, 0⟩ u ⟨t.pc + 1, t.st, false, false⟩ := by unfold stepI; simp [hk9]
                            refine RL.assign rfl ?_
                            refine RL.nil ?_
                            refine X.cond_t rfl ?_
                            refine X.seq ?_
                            refine X.region rfl ?_
                            refine RL.fieldAddr rfl fd27_1 rfl ?_
                            refine RL.loadO rfl sc3 rfl rfl ?_
                            refine RL.bldC (vs := [(0, .int .i64 (3)), (1, .int .i64 (x.a))]) (cells := (⟨3, x.a, 0, 0, 0⟩ : Ev).cells) rfl rfl (fun w => by kernel_rfl) ?_
                            refine RL.move rfl ?_
                            refine RL.stA (l := (⟨0, 0, 0, 0, 0⟩ : Ev).cells) rfl rfl ag30.size rfl rfl (Ev.len _) (Ev.len ⟨0, 0, 0, 0, 0⟩) (Ev.one _) ?_
                            refine RL.assign rfl ?_
                            refine RL.nil ?_
                            refine X.ret ?_
                            refine retcA2 rfl ag30 rfl (Ev.len _) ?_
                            rw [← hrun, runN_stop hx.ins hst]
                            exact ⟨rfl, A4, cp4, Lr4, hr4, List.Sublist.append (List.Sublist.refl _) (.cons_cons _ (List.nil_sublist _))⟩
                          · replace hk9 : ¬ ((_ : Int) = _) := hk9
                            refine RL.assign rfl ?_
                            refine RL.nil ?_
                            refine X.cond_f rfl ?_
                            refine X.seq ?_
                            refine X.region rfl ?_
                            refine RL.cmp_s rfl rfl rfl rfl (fun hk10 => ?_) (fun hk10 => ?_)
                            · replace hk10 : (_ : Int) = _ := hk10
                              have hst : stepI x arg u t = .stop ⟨4, x.a, 0, 0, 0⟩ u ⟨t.pc + 1, t.st, false, false⟩ := by unfold stepI; simp [hk10]
                              refine RL.assign rfl ?_
                              refine RL.nil ?_
                              refine X.cond_t rfl ?_
                              refine X.seq ?_
                              refine X.region rfl ?_
                              refine RL.fieldAddr rfl fd27_1 rfl ?_
                              refine RL.loadO rfl sc3 rfl rfl ?_
                              refine RL.bldC (vs := [(0, .int .i64 (4)), (1, .int .i64 (x.a))]) (cells := (⟨4, x.a, 0, 0, 0⟩ : Ev).cells) rfl rfl (fun w => by kernel_rfl) ?_
                              refine RL.move rfl ?_
                              refine RL.stA (l := (⟨0, 0, 0, 0, 0⟩ : Ev).cells) rfl rfl ag30.size rfl rfl (Ev.len _) (Ev.len ⟨0, 0, 0, 0, 0⟩) (Ev.one _) ?_
                              refine RL.assign rfl ?_
                              refine RL.nil ?_
                              refine X.ret ?_
                              refine retcA2 rfl ag30 rfl (Ev.len _) ?_
                              rw [← hrun, runN_stop hx.ins hst]
                              exact ⟨rfl, A4, cp4, Lr4, hr4, List.Sublist.append (List.Sublist.refl _) (.cons_cons _ (List.nil_sublist _))⟩
                            · replace hk10 : ¬ ((_ : Int) = _) := hk10
                              refine RL.assign rfl ?_
                              refine RL.nil ?_
                              refine X.cond_f rfl ?_
                              refine X.seq ?_
                              refine X.region rfl ?_
                              have hk11 : x.op = 11 := by omega
                              have htk1 : t.st.length = 1 := hx.ret hk11
                              have hst : stepI x arg u t = .stop ⟨1, 0, 0, top t.st, 0⟩ u ⟨t.pc, t.st.dropLast, false, true⟩ := by unfold stepI; simp [hk11]
                              refine RL.cmp_t rfl rfl rfl rfl (by show ((_ : Int) = _); omega) ?_
                              refine RL.assign rfl ?_
                              refine RL.nil ?_
                              refine X.cond_t rfl ?_
                              refine X.exit rfl ?_
                              refine X.seq ?_
                              refine X.region rfl ?_
                              refine RL.move rfl ?_
                              refine RL.nilCheck rfl rfl ?_
                              refine RL.fieldAddr rfl fd53_2 rfl ?_
                              refine RL.loadO rfl sc3 rfl rfl ?_
                              refine RL.sub rfl rfl rfl (by omega) ?_
                              refine RL.nilCheck rfl rfl ?_
                              refine RL.fieldAddr rfl fd53_2 rfl ?_
                              refine RL.stI rfl rfl sc3.size rfl rfl (by first | exact Nat.zero_lt_one | decide | simp) ?_
                              refine RL.nil ?_
                              refine X.seq ?_
                              refine X.region rfl ?_
                              refine RL.move rfl ?_
                              refine RL.nilCheck rfl rfl ?_
                              refine RL.fieldAddr rfl fd53_5 rfl ?_
                              refine RL.stB rfl rfl sc4.size rfl rfl (by first | exact Nat.zero_lt_one | decide | simp) ?_
                              refine RL.nil ?_
                              refine X.seq ?_
                              refine X.region rfl ?_
                              refine RL.move rfl ?_
                              refine RL.fn (Lp := Lr4 ++ [(fb, cel 53 [.slice A l.length c, .int .i64 arg, .int .i64 (((t.pc : Int) + 1) - 1), .slice A4 t.st.length cp4, .bool false, .bool true])]) (Lr := [(b6, cel 30 (⟨0, 0, 0, 0, 0⟩ : Ev).cells), (b8, cel 27 x.cells)]) rfl rfl rfl en20 (by classical exact List.perm_iff_count.2 (fun z => by simp only [List.count_append, List.count_cons, List.count_nil, List.cons_append, List.nil_append, List.set_cons_zero, List.set_cons_succ] <;> omega)) (fun w1 hw1 => f_take fb (.slice A l.length c) (.int .i64 arg) (.int .i64 (((t.pc : Int) + 1) - 1)) (.bool false) (.bool true) (t.st) A4 cp4 (Lr4) hr4 (by simp only [List.length_append, List.length_dropLast, List.length_cons, List.length_nil] at *; omega) (by simp only [List.length_append, List.length_dropLast, List.length_cons, List.length_nil] at *; omega) w1 (fun p hp => hw1.own p (List.mem_append_left _ hp)) (hw1.nodup.sublist ((List.sublist_append_left _ _).map _))) rfl ?_
                              rintro _ _ ⟨rfl, A5, cp5, Lr5, hr5, hs5⟩
                              refine RL.drop (L' := Lr5 ++ ((fb, cel 53 [.slice A l.length c, .int .i64 arg, .int .i64 (((t.pc : Int) + 1) - 1), .slice A5 t.st.dropLast.length cp5, .bool false, .bool true]) :: [(b6, cel 30 (⟨0, 0, 0, 0, 0⟩ : Ev).cells), (b8, cel 27 x.cells)])) rfl ?_ ?_
                              · have := hs5.append (List.Sublist.refl ([(b6, cel 30 (⟨0, 0, 0, 0, 0⟩ : Ev).cells), (b8, cel 27 x.cells)]))
                                rwa [List.append_assoc] at this
                              refine RL.bldC (vs := [(0, .int .i64 (1)), (3, .int .i64 (top t.st))]) (cells := (⟨1, 0, 0, top t.st, 0⟩ : Ev).cells) rfl rfl (fun w => by kernel_rfl) ?_
                              refine RL.move rfl ?_
                              refine RL.stA (l := (⟨0, 0, 0, 0, 0⟩ : Ev).cells) rfl rfl ag30.size rfl rfl (Ev.len _) (Ev.len ⟨0, 0, 0, 0, 0⟩) (Ev.one _) ?_
                              refine RL.assign rfl ?_
                              refine RL.nil ?_
                              have epc : ((t.pc : Int) + 1) - 1 = (t.pc : Int) := by omega
                              rw [epc]
                              refine X.ret ?_
                              refine retcA2 rfl ag30 rfl (Ev.len _) ?_
                              rw [← hrun, runN_stop hx.ins hst]
                              exact ⟨rfl, A5, cp5, Lr5, hr5, List.Sublist.append (List.Sublist.refl _) (.cons_cons _ (List.nil_sublist _))⟩
  · refine Ctr.intro (n := 144) Try.func9 rfl Try.ntmps9 (Nat.le_of_ble_eq_true rfl) hown hnd ?_
    refine X.seq ?_
    refine X.region rfl ?_
    refine RL.alloc rfl rfl zt30 ?_
    intro b6 hb6
    dsimp only at hb6
    refine RL.assign rfl ?_
    refine RL.nil ?_
    refine X.scope rfl ?_
    refine X.seq ?_
    refine X.seq ?_
    refine X.region rfl ?_
    refine RL.move rfl ?_
    refine RL.eqP rfl Try.underlying22 rfl rfl rfl ?_
    refine RL.move rfl ?_
    refine RL.move rfl ?_
    refine RL.nilCheck rfl rfl ?_
    refine RL.fieldAddr rfl fd53_5 rfl ?_
    refine RL.loadO rfl sc4 rfl rfl ?_
    refine RL.pick_f rfl rfl ?_
    refine RL.nil ?_
    refine X.cond_t rfl ?_
    refine X.seq ?_
    refine X.region rfl ?_
    refine RL.bldC (vs := [(0, .int .i64 5), (4, .int .i64 12)]) (cells := (⟨5, 0, 0, 0, 12⟩ : Ev).cells) rfl rfl (fun w => by kernel_rfl) ?_
    refine RL.move rfl ?_
    refine RL.stA (l := (⟨0, 0, 0, 0, 0⟩ : Ev).cells) rfl rfl ag30.size rfl rfl (Ev.len _) (Ev.len ⟨0, 0, 0, 0, 0⟩) (Ev.one _) ?_
    refine RL.assign rfl ?_
    refine RL.nil ?_
    refine X.ret ?_
    refine retcA2 rfl ag30 rfl (Ev.len _) ?_
    rw [nextP_over rfl]
    exact ⟨rfl, A2, cp2, Lr, hrow, (by repeat (first | exact List.Sublist.refl _ | exact List.nil_sublist _ | (rw [List.append_nil]; exact List.Sublist.refl _) | exact List.sublist_append_left _ _ | exact (List.sublist_append_left _ _).trans (List.sublist_append_left _ _) | apply List.Sublist.cons_cons | apply List.Sublist.cons | refine List.Sublist.trans ?_ (List.sublist_append_right _ _)))⟩
end Go.Proofs.Ytekepfpkihnodaa

/- Next, as the document has it. -/
import Derived.Test.YtekepfpkihnodaaA7
set_option linter.unusedVariables false
set_option linter.unusedSimpArgs false
namespace Go.Proofs.Ytekepfpkihnodaa
open Go.RowKit
attribute [local irreducible] X RL W Ctr
set_option maxHeartbeats 2000000 in
set_option maxRecDepth 20000 in
theorem f_rnext (l : List Ins) (hv : Valid l 8) (arg r v : Int) (s : Fr) (hok : FrOk l s) (A : Option Addr) (c : Nat) (bb oo : Nat) (fb : Nat) (A2 : Option Addr) (cp2 : Nat) (Lr : List Ent) (hrow : Row 2 1 (.slice A2 s.st.length cp2) (ints s.st) Lr) (hst8 : s.st.length ≤ 8) (w : World) (hown : ∀ p ∈ Lr ++ [(fb, cel 46 [.slice A l.length c, .int .i64 arg, .int .i64 s.pc, .slice A2 s.st.length cp2, .bool s.calls, .bool s.over])], w.heap[p.1]? = some p.2) (hnd : (keys (Lr ++ [(fb, cel 46 [.slice A l.length c, .int .i64 arg, .int .i64 s.pc, .slice A2 s.st.length cp2, .bool s.calls, .bool s.over])])).Nodup) (hA : 0 < l.length → A = some ⟨bb, oo, none⟩) (hc : CellsAt w bb oo (icells l)) (hbb : bb ∉ keys (Lr ++ [(fb, cel 46 [.slice A l.length c, .int .i64 arg, .int .i64 s.pc, .slice A2 s.st.length cp2, .bool s.calls, .bool s.over])])) :
    Ctr Try.prog 15 [.pointer (some ⟨fb, 0, none⟩), .int .i64 r, .int .i64 v] w (Lr ++ [(fb, cel 46 [.slice A l.length c, .int .i64 arg, .int .i64 s.pc, .slice A2 s.st.length cp2, .bool s.calls, .bool s.over])]) fun val L => val = .tuple #[.agg (nextP l arg r v s).1.cells.toArray, .int .i64 (nextP l arg r v s).2.1] ∧ ∃ A3 cp3 Lr3, Row 2 1 (.slice A3 ((nextP l arg r v s).2.2.st).length cp3) (ints ((nextP l arg r v s).2.2.st)) Lr3 ∧ (Lr3 ++ [(fb, cel 46 [.slice A l.length c, .int .i64 arg, .int .i64 (nextP l arg r v s).2.2.pc, .slice A3 (nextP l arg r v s).2.2.st.length cp3, .bool (nextP l arg r v s).2.2.calls, .bool (nextP l arg r v s).2.2.over])]).Sublist L := by
  have hl := hv.len
  have hpc := hok.pc
  obtain ⟨pc, st, calls, over⟩ := s
  dsimp only at *
  cases over
  · have hwk : Wk l (opened r ⟨pc, st, calls, false⟩) := hok.wk rfl r
    have hnp : nextP l arg r v ⟨pc, st, calls, false⟩ = runN l arg l.length v (opened r ⟨pc, st, calls, false⟩) := nextP_at rfl
    refine Ctr.intro (n := 271) Try.func15 rfl Try.ntmps15 (Nat.le_of_ble_eq_true rfl) hown hnd ?_
    refine X.seq ?_
    refine X.region rfl ?_
    refine RL.alloc rfl rfl zt30 ?_
    intro b6 hb6
    dsimp only at hb6
    refine RL.perm (L' := Lr ++ [(fb, cel 46 [.slice A l.length c, .int .i64 arg, .int .i64 (pc : Nat), .slice A2 st.length cp2, .bool calls, .bool false]), (b6, cel 30 (⟨0, 0, 0, 0, 0⟩ : Ev).cells)]) rfl (perm_last _ _ _) ?_
    refine RL.assign rfl ?_
    refine RL.nil ?_
    refine X.seq ?_
    refine X.seq ?_
    refine X.region rfl ?_
    refine RL.move rfl ?_
    refine RL.nilCheck rfl rfl ?_
    refine RL.fieldAddr rfl fd46_5 rfl ?_
    refine RL.loadO rfl sc4 rfl rfl ?_
    refine RL.nil ?_
    refine X.cond_f rfl ?_
    refine X.skip ?_
    refine X.seq ?_
    refine X.seq ?_
    refine X.region rfl ?_
    refine RL.move rfl ?_
    refine RL.nilCheck rfl rfl ?_
    refine RL.fieldAddr rfl fd46_4 rfl ?_
    refine RL.loadO rfl sc4 rfl rfl ?_
    refine RL.nil ?_
    refine X.cut (fun ρ ds L => ds = [] ∧ ∃ A3 cp3 Lr3, Row 2 1 (.slice A3 ((opened r ⟨pc, st, calls, false⟩).st).length cp3) (ints ((opened r ⟨pc, st, calls, false⟩).st)) Lr3 ∧ Has ρ [(0, .pointer (some ⟨fb, 0, none⟩)), (2, .int .i64 v), (6, .pointer (some ⟨b6, 0, none⟩))] ∧ L = Lr3 ++ [(fb, cel 46 [.slice A l.length c, .int .i64 arg, .int .i64 (opened r ⟨pc, st, calls, false⟩).pc, .slice A3 ((opened r ⟨pc, st, calls, false⟩).st).length cp3, .bool false, .bool false]), (b6, cel 30 (⟨0, 0, 0, 0, 0⟩ : Ev).cells)]) ?_ ?_
    · cases calls
      · refine X.cond_f rfl ?_
        refine X.skip ?_
        exact X.hyp ⟨rfl, A2, cp2, Lr, hrow, ⟨rfl, rfl, rfl, trivial⟩, rfl⟩
      · refine X.cond_t rfl ?_
        refine X.seq ?_
        refine X.region rfl ?_
        refine RL.move rfl ?_
        refine RL.move rfl ?_
        refine RL.nilCheck rfl rfl ?_
        refine RL.fieldAddr rfl fd46_3 rfl ?_
        refine RL.loadO rfl sc35 rfl rfl ?_
        refine RL.move rfl ?_
        refine RL.bs1I rfl rfl sl35 zt2 rfl ?_
        intro bb4 hbb4
        refine RL.app1I (Lr := Lr) (Lz := [(fb, cel 46 [.slice A l.length c, .int .i64 arg, .int .i64 (pc : Nat), .slice A2 st.length cp2, .bool true, .bool false]), (b6, cel 30 (⟨0, 0, 0, 0, 0⟩ : Ev).cells)]) rfl rfl sl35 el_i64 Try.underlying35 (by classical exact List.perm_iff_count.2 (fun z => by simp only [List.count_append, List.count_cons, List.count_nil, List.cons_append, List.nil_append, List.set_cons_zero, List.set_cons_succ] <;> omega)) rfl rfl hrow (by rw [ints_length]; (try simp only [List.length_dropLast]); omega) (n := (st ++ [r]).length) (by rw [ints_length]; simp) ?_
        intro A4 cp4 Lr4 hr4
        rw [← ints_snoc] at hr4
        refine RL.drop (L' := Lr4 ++ [(fb, cel 46 [.slice A l.length c, .int .i64 arg, .int .i64 (pc : Nat), .slice A2 st.length cp2, .bool true, .bool false]), (b6, cel 30 (⟨0, 0, 0, 0, 0⟩ : Ev).cells)]) rfl (List.Sublist.append (List.Sublist.refl _) (List.sublist_append_left _ _)) ?_
        refine RL.nilCheck rfl rfl ?_
        refine RL.fieldAddr rfl fd46_3 rfl ?_
        refine RL.stS rfl rfl sc35.size rfl rfl (by first | exact Nat.zero_lt_one | decide | simp) ?_
        refine RL.nil ?_
        refine X.region rfl ?_
        refine RL.move rfl ?_
        refine RL.nilCheck rfl rfl ?_
        refine RL.fieldAddr rfl fd46_4 rfl ?_
        refine RL.stB rfl rfl sc4.size rfl rfl (by first | exact Nat.zero_lt_one | decide | simp) ?_
        refine RL.nil ?_
        refine X.hyp ⟨rfl, A4, cp4, Lr4, hr4, ⟨rfl, rfl, rfl, trivial⟩, rfl⟩
    · rintro _ _ _ ⟨rfl, A3, cp3, Lr3, hr3, hρ, rfl⟩
      obtain ⟨base, rfl⟩ := hρ.base
      clear hρ hrow hown hnd
      refine X.seq ?_
      refine X.block ?_
      refine X.loop (γ := Nat) (fun g ρ L => ∃ u : Int, ∃ t : Fr, ∃ A4 : Option Addr, ∃ cp4 : Nat, ∃ Lr4 : List Ent, (l.length ≤ g + t.pc) ∧ (Wk l t) ∧ (runN l arg g u t = nextP l arg r v ⟨pc, st, calls, false⟩) ∧ (Row 2 1 (.slice A4 t.st.length cp4) (ints t.st) Lr4) ∧ Has ρ [(0, .pointer (some ⟨fb, 0, none⟩)), (2, .int .i64 u), (6, .pointer (some ⟨b6, 0, none⟩))] ∧ L = Lr4 ++ [(fb, cel 46 [.slice A l.length c, .int .i64 arg, .int .i64 t.pc, .slice A4 t.st.length cp4, .bool false, .bool false]), (b6, cel 30 (⟨0, 0, 0, 0, 0⟩ : Ev).cells)]) (fun g => g) (l.length) ⟨_, (by repeat (first | exact List.Sublist.refl _ | exact List.nil_sublist _ | (rw [List.append_nil]; exact List.Sublist.refl _) | exact List.sublist_append_left _ _ | exact (List.sublist_append_left _ _).trans (List.sublist_append_left _ _) | apply List.Sublist.cons_cons | apply List.Sublist.cons | refine List.Sublist.trans ?_ (List.sublist_append_right _ _))), v, (opened r ⟨pc, st, calls, false⟩), A3, cp3, Lr3, by omega, hwk, hnp.symm, hr3, ⟨rfl, rfl, rfl, trivial⟩, rfl⟩ ?_
      rintro g _ _ ⟨u, t, A4, cp4, Lr4, hg, hwk2, hrun, hr4, hρ, rfl⟩
      obtain ⟨base, rfl⟩ := hρ.base
      clear hρ
      clear hr3
      have htp := hwk2.lt
      obtain ⟨m, rfl⟩ : ∃ m, g = m + 1 := ⟨g - 1, by omega⟩
      obtain ⟨x, hx⟩ := hwk2.at hv
      have hx1 := hx.op1
      have hx2 := hx.op2
      have htk := hx.tk
      have hdeep := hx.deep
      have hnx := hx.nxt
      have hl32 := hx.l32
      refine X.seq ?_
      refine X.seq ?_
      refine X.draw (by kernel_rfl) (by kernel_rfl) ?_
      refine RL.move rfl ?_
      refine RL.nilCheck rfl rfl ?_
      refine RL.fieldAddr rfl fd46_2 rfl ?_
      refine RL.loadO rfl sc3 rfl rfl ?_
      refine RL.move rfl ?_
      refine RL.nilCheck rfl rfl ?_
      refine RL.fieldAddr rfl fd46_0 rfl ?_
      refine RL.loadO rfl sc28 rfl rfl ?_
      refine RL.len rfl sl28 rfl ?_
      refine RL.cmp_t rfl rfl rfl rfl (by show ((_ : Int) < _); omega) ?_
      refine RL.nil ?_
      refine X.cond_t rfl ?_
      refine X.skip ?_
      refine X.block ?_
      refine X.seq ?_
      refine X.set [.val (.pointer (some ⟨fb, 0, none⟩)), .val (.pointer (some ⟨fb, 0, none⟩)), .val (.pointer (some ⟨fb, 0 + 0, none⟩)), .val (.slice A l.length c), .val (.pointer (some ⟨fb, 0, none⟩)), .val (.pointer (some ⟨fb, 0, none⟩)), .val (.pointer (some ⟨fb, 0 + 2, none⟩)), .val (.int .i64 t.pc), .val (.pointer (some ⟨bb, oo + t.pc * 3, none⟩)), .val (.agg x.cells.toArray), .any, .any] [[], [0], [0, 1], [0, 1, 2], [], [4], [4, 5], [4, 5, 6], [0, 1, 2, 3, 4, 5, 6, 7], [0, 1, 2, 3, 4, 5, 6, 7, 8], [], [0, 1, 2, 3, 4, 5, 6, 7, 8, 9, 10]] (fun D ρ L => (D 10 = false ∧ D 11 = false ∧ True ∧ Has ρ [] ∧ L.Perm ((Lr4) ++ (([(fb, cel 46 [.slice A l.length c, .int .i64 arg, .int .i64 t.pc, .slice A4 t.st.length cp4, .bool false, .bool false])]) ++ ([(b6, cel 30 (⟨0, 0, 0, 0, 0⟩ : Ev).cells)])))) ∨ (D 10 = true ∧ D 11 = false ∧ True ∧ ∃ b8 : Nat, Has ρ [(8, .pointer (some ⟨b8, 0, none⟩))] ∧ L.Perm ((Lr4) ++ (([(fb, cel 46 [.slice A l.length c, .int .i64 arg, .int .i64 t.pc, .slice A4 t.st.length cp4, .bool false, .bool false])]) ++ (([(b6, cel 30 (⟨0, 0, 0, 0, 0⟩ : Ev).cells)]) ++ ([(b8, cel 27 [.int .i64 0, .int .i64 0, .int .i64 0])]))))) ∨ (D 10 = true ∧ D 11 = true ∧ True ∧ ∃ b8 : Nat, Has ρ [(8, .pointer (some ⟨b8, 0, none⟩))] ∧ L.Perm ((Lr4) ++ (([(fb, cel 46 [.slice A l.length c, .int .i64 arg, .int .i64 t.pc, .slice A4 t.st.length cp4, .bool false, .bool false])]) ++ (([(b6, cel 30 (⟨0, 0, 0, 0, 0⟩ : Ev).cells)]) ++ ([(b8, cel 27 x.cells)])))))) rfl (by kernel_rfl) (by kernel_rfl) (by kernel_rfl) (by kernel_rfl) (fun D hD => .inl ⟨hD 10, hD 11, trivial, trivial, (List.Perm.refl _)⟩) ⟨?_, ?_, ?_, ?_, ?_, ?_, ?_, ?_, ?_, ?_, ?_, ?_, trivial⟩ ?_
      · intro ρ L D hS
        rcases hS.sp with ⟨e10, e11, -, hρ, hL⟩ | ⟨e10, e11, -, b8, hρ, hL⟩ | ⟨e10, e11, -, b8, hρ, hL⟩
        · have u0 : ρ 0 = .pointer (some ⟨fb, 0, none⟩) := hS.fix 0 (by decide)
          clear hS hρ
          obtain ⟨base, rfl⟩ := Has.base (ρ := ρ) (l := [(0, .pointer (some ⟨fb, 0, none⟩))]) ⟨u0, trivial⟩
          clear u0
          refine RL.perm (L' := ((Lr4) ++ (([(fb, cel 46 [.slice A l.length c, .int .i64 arg, .int .i64 t.pc, .slice A4 t.st.length cp4, .bool false, .bool false])]) ++ ([(b6, cel 30 (⟨0, 0, 0, 0, 0⟩ : Ev).cells)])))) rfl hL.symm ?_
          clear hL
          refine RL.move rfl ?_
          refine RL.nil ?_
          exact ⟨rfl, ⟨_, rfl, rfl⟩, .inl ⟨e10, e11, trivial, trivial, List.Perm.refl _⟩⟩
        · have u0 : ρ 0 = .pointer (some ⟨fb, 0, none⟩) := hS.fix 0 (by decide)
          have u8 : ρ 8 = .pointer (some ⟨b8, 0, none⟩) := hρ.1
          clear hS hρ
          obtain ⟨base, rfl⟩ := Has.base (ρ := ρ) (l := [(0, .pointer (some ⟨fb, 0, none⟩)), (8, .pointer (some ⟨b8, 0, none⟩))]) ⟨u0, u8, trivial⟩
          clear u0 u8
          refine RL.perm (L' := ((Lr4) ++ (([(fb, cel 46 [.slice A l.length c, .int .i64 arg, .int .i64 t.pc, .slice A4 t.st.length cp4, .bool false, .bool false])]) ++ (([(b6, cel 30 (⟨0, 0, 0, 0, 0⟩ : Ev).cells)]) ++ ([(b8, cel 27 [.int .i64 0, .int .i64 0, .int .i64 0])]))))) rfl hL.symm ?_
          clear hL
          refine RL.move rfl ?_
          refine RL.nil ?_
          exact ⟨rfl, ⟨_, rfl, rfl⟩, .inr (.inl ⟨e10, e11, trivial, b8, ⟨rfl, trivial⟩, List.Perm.refl _⟩)⟩
        · exact hS.hi 11 rfl (by kernel_rfl) e11
      · intro ρ L D hS
        rcases hS.sp with ⟨e10, e11, -, hρ, hL⟩ | ⟨e10, e11, -, b8, hρ, hL⟩ | ⟨e10, e11, -, b8, hρ, hL⟩
        · have u44 : ρ 44 = .pointer (some ⟨fb, 0, none⟩) := hS.dep ⟨0, Ground.data⟩ (by simp) rfl _ _ rfl rfl
          clear hS hρ
          obtain ⟨base, rfl⟩ := Has.base (ρ := ρ) (l := [(44, .pointer (some ⟨fb, 0, none⟩))]) ⟨u44, trivial⟩
          clear u44
          refine RL.perm (L' := ((Lr4) ++ (([(fb, cel 46 [.slice A l.length c, .int .i64 arg, .int .i64 t.pc, .slice A4 t.st.length cp4, .bool false, .bool false])]) ++ ([(b6, cel 30 (⟨0, 0, 0, 0, 0⟩ : Ev).cells)])))) rfl hL.symm ?_
          clear hL
          refine RL.nilCheck rfl rfl ?_
          refine RL.nil ?_
          exact ⟨rfl, ⟨_, rfl, rfl⟩, .inl ⟨e10, e11, trivial, trivial, List.Perm.refl _⟩⟩
        · have u8 : ρ 8 = .pointer (some ⟨b8, 0, none⟩) := hρ.1
          have u44 : ρ 44 = .pointer (some ⟨fb, 0, none⟩) := hS.dep ⟨0, Ground.data⟩ (by simp) rfl _ _ rfl rfl
          clear hS hρ
          obtain ⟨base, rfl⟩ := Has.base (ρ := ρ) (l := [(8, .pointer (some ⟨b8, 0, none⟩)), (44, .pointer (some ⟨fb, 0, none⟩))]) ⟨u8, u44, trivial⟩
          clear u8 u44
          refine RL.perm (L' := ((Lr4) ++ (([(fb, cel 46 [.slice A l.length c, .int .i64 arg, .int .i64 t.pc, .slice A4 t.st.length cp4, .bool false, .bool false])]) ++ (([(b6, cel 30 (⟨0, 0, 0, 0, 0⟩ : Ev).cells)]) ++ ([(b8, cel 27 [.int .i64 0, .int .i64 0, .int .i64 0])]))))) rfl hL.symm ?_
          clear hL
          refine RL.nilCheck rfl rfl ?_
          refine RL.nil ?_
          exact ⟨rfl, ⟨_, rfl, rfl⟩, .inr (.inl ⟨e10, e11, trivial, b8, ⟨rfl, trivial⟩, List.Perm.refl _⟩)⟩
        · exact hS.hi 11 rfl (by kernel_rfl) e11
      · intro ρ L D hS
        rcases hS.sp with ⟨e10, e11, -, hρ, hL⟩ | ⟨e10, e11, -, b8, hρ, hL⟩ | ⟨e10, e11, -, b8, hρ, hL⟩
        · have u45 : ρ 45 = .pointer (some ⟨fb, 0, none⟩) := hS.dep ⟨1, Ground.data⟩ (by simp) rfl _ _ rfl rfl
          clear hS hρ
          obtain ⟨base, rfl⟩ := Has.base (ρ := ρ) (l := [(45, .pointer (some ⟨fb, 0, none⟩))]) ⟨u45, trivial⟩
          clear u45
          refine RL.perm (L' := ((Lr4) ++ (([(fb, cel 46 [.slice A l.length c, .int .i64 arg, .int .i64 t.pc, .slice A4 t.st.length cp4, .bool false, .bool false])]) ++ ([(b6, cel 30 (⟨0, 0, 0, 0, 0⟩ : Ev).cells)])))) rfl hL.symm ?_
          clear hL
          refine RL.fieldAddr rfl fd46_0 rfl ?_
          refine RL.nil ?_
          exact ⟨rfl, ⟨_, rfl, rfl⟩, .inl ⟨e10, e11, trivial, trivial, List.Perm.refl _⟩⟩
        · have u8 : ρ 8 = .pointer (some ⟨b8, 0, none⟩) := hρ.1
          have u45 : ρ 45 = .pointer (some ⟨fb, 0, none⟩) := hS.dep ⟨1, Ground.data⟩ (by simp) rfl _ _ rfl rfl
          clear hS hρ
          obtain ⟨base, rfl⟩ := Has.base (ρ := ρ) (l := [(8, .pointer (some ⟨b8, 0, none⟩)), (45, .pointer (some ⟨fb, 0, none⟩))]) ⟨u8, u45, trivial⟩
          clear u8 u45
          refine RL.perm (L' := ((Lr4) ++ (([(fb, cel 46 [.slice A l.length c, .int .i64 arg, .int .i64 t.pc, .slice A4 t.st.length cp4, .bool false, .bool false])]) ++ (([(b6, cel 30 (⟨0, 0, 0, 0, 0⟩ : Ev).cells)]) ++ ([(b8, cel 27 [.int .i64 0, .int .i64 0, .int .i64 0])]))))) rfl hL.symm ?_
          clear hL
          refine RL.fieldAddr rfl fd46_0 rfl ?_
          refine RL.nil ?_
          exact ⟨rfl, ⟨_, rfl, rfl⟩, .inr (.inl ⟨e10, e11, trivial, b8, ⟨rfl, trivial⟩, List.Perm.refl _⟩)⟩
        · exact hS.hi 11 rfl (by kernel_rfl) e11
      · intro ρ L D hS
        rcases hS.sp with ⟨e10, e11, -, hρ, hL⟩ | ⟨e10, e11, -, b8, hρ, hL⟩ | ⟨e10, e11, -, b8, hρ, hL⟩
        · have u46 : ρ 46 = .pointer (some ⟨fb, 0 + 0, none⟩) := hS.dep ⟨2, Ground.data⟩ (by simp) rfl _ _ rfl rfl
          clear hS hρ
          obtain ⟨base, rfl⟩ := Has.base (ρ := ρ) (l := [(46, .pointer (some ⟨fb, 0 + 0, none⟩))]) ⟨u46, trivial⟩
          clear u46
          refine RL.perm (L' := ((Lr4) ++ (([(fb, cel 46 [.slice A l.length c, .int .i64 arg, .int .i64 t.pc, .slice A4 t.st.length cp4, .bool false, .bool false])]) ++ ([(b6, cel 30 (⟨0, 0, 0, 0, 0⟩ : Ev).cells)])))) rfl hL.symm ?_
          clear hL
          refine RL.loadO rfl sc28 rfl rfl ?_
          refine RL.nil ?_
          exact ⟨rfl, ⟨_, rfl, rfl⟩, .inl ⟨e10, e11, trivial, trivial, List.Perm.refl _⟩⟩
        · have u8 : ρ 8 = .pointer (some ⟨b8, 0, none⟩) := hρ.1
          have u46 : ρ 46 = .pointer (some ⟨fb, 0 + 0, none⟩) := hS.dep ⟨2, Ground.data⟩ (by simp) rfl _ _ rfl rfl
          clear hS hρ
          obtain ⟨base, rfl⟩ := Has.base (ρ := ρ) (l := [(8, .pointer (some ⟨b8, 0, none⟩)), (46, .pointer (some ⟨fb, 0 + 0, none⟩))]) ⟨u8, u46, trivial⟩
          clear u8 u46
          refine RL.perm (L' := ((Lr4) ++ (([(fb, cel 46 [.slice A l.length c, .int .i64 arg, .int .i64 t.pc, .slice A4 t.st.length cp4, .bool false, .bool false])]) ++ (([(b6, cel 30 (⟨0, 0, 0, 0, 0⟩ : Ev).cells)]) ++ ([(b8, cel 27 [.int .i64 0, .int .i64 0, .int .i64 0])]))))) rfl hL.symm ?_
          clear hL
          refine RL.loadO rfl sc28 rfl rfl ?_
          refine RL.nil ?_
          exact ⟨rfl, ⟨_, rfl, rfl⟩, .inr (.inl ⟨e10, e11, trivial, b8, ⟨rfl, trivial⟩, List.Perm.refl _⟩)⟩
        · exact hS.hi 11 rfl (by kernel_rfl) e11
      · intro ρ L D hS
        rcases hS.sp with ⟨e10, e11, -, hρ, hL⟩ | ⟨e10, e11, -, b8, hρ, hL⟩ | ⟨e10, e11, -, b8, hρ, hL⟩
        · have u0 : ρ 0 = .pointer (some ⟨fb, 0, none⟩) := hS.fix 0 (by decide)
          clear hS hρ
          obtain ⟨base, rfl⟩ := Has.base (ρ := ρ) (l := [(0, .pointer (some ⟨fb, 0, none⟩))]) ⟨u0, trivial⟩
          clear u0
          refine RL.perm (L' := ((Lr4) ++ (([(fb, cel 46 [.slice A l.length c, .int .i64 arg, .int .i64 t.pc, .slice A4 t.st.length cp4, .bool false, .bool false])]) ++ ([(b6, cel 30 (⟨0, 0, 0, 0, 0⟩ : Ev).cells)])))) rfl hL.symm ?_
          clear hL
          refine RL.move rfl ?_
          refine RL.nil ?_
          exact ⟨rfl, ⟨_, rfl, rfl⟩, .inl ⟨e10, e11, trivial, trivial, List.Perm.refl _⟩⟩
        · have u0 : ρ 0 = .pointer (some ⟨fb, 0, none⟩) := hS.fix 0 (by decide)
          have u8 : ρ 8 = .pointer (some ⟨b8, 0, none⟩) := hρ.1
          clear hS hρ
          obtain ⟨base, rfl⟩ := Has.base (ρ := ρ) (l := [(0, .pointer (some ⟨fb, 0, none⟩)), (8, .pointer (some ⟨b8, 0, none⟩))]) ⟨u0, u8, trivial⟩
          clear u0 u8
          refine RL.perm (L' := ((Lr4) ++ (([(fb, cel 46 [.slice A l.length c, .int .i64 arg, .int .i64 t.pc, .slice A4 t.st.length cp4, .bool false, .bool false])]) ++ (([(b6, cel 30 (⟨0, 0, 0, 0, 0⟩ : Ev).cells)]) ++ ([(b8, cel 27 [.int .i64 0, .int .i64 0, .int .i64 0])]))))) rfl hL.symm ?_
          clear hL
          refine RL.move rfl ?_
          refine RL.nil ?_
          exact ⟨rfl, ⟨_, rfl, rfl⟩, .inr (.inl ⟨e10, e11, trivial, b8, ⟨rfl, trivial⟩, List.Perm.refl _⟩)⟩
        · exact hS.hi 11 rfl (by kernel_rfl) e11
      · intro ρ L D hS
        rcases hS.sp with ⟨e10, e11, -, hρ, hL⟩ | ⟨e10, e11, -, b8, hρ, hL⟩ | ⟨e10, e11, -, b8, hρ, hL⟩
        · have u48 : ρ 48 = .pointer (some ⟨fb, 0, none⟩) := hS.dep ⟨4, Ground.data⟩ (by simp) rfl _ _ rfl rfl
          clear hS hρ
          obtain ⟨base, rfl⟩ := Has.base (ρ := ρ) (l := [(48, .pointer (some ⟨fb, 0, none⟩))]) ⟨u48, trivial⟩
          clear u48
          refine RL.perm (L' := ((Lr4) ++ (([(fb, cel 46 [.slice A l.length c, .int .i64 arg, .int .i64 t.pc, .slice A4 t.st.length cp4, .bool false, .bool false])]) ++ ([(b6, cel 30 (⟨0, 0, 0, 0, 0⟩ : Ev).cells)])))) rfl hL.symm ?_
          clear hL
          refine RL.nilCheck rfl rfl ?_
          refine RL.nil ?_
          exact ⟨rfl, ⟨_, rfl, rfl⟩, .inl ⟨e10, e11, trivial, trivial, List.Perm.refl _⟩⟩
        · have u8 : ρ 8 = .pointer (some ⟨b8, 0, none⟩) := hρ.1
          have u48 : ρ 48 = .pointer (some ⟨fb, 0, none⟩) := hS.dep ⟨4, Ground.data⟩ (by simp) rfl _ _ rfl rfl
          clear hS hρ
          obtain ⟨base, rfl⟩ := Has.base (ρ := ρ) (l := [(8, .pointer (some ⟨b8, 0, none⟩)), (48, .pointer (some ⟨fb, 0, none⟩))]) ⟨u8, u48, trivial⟩
          clear u8 u48
          refine RL.perm (L' := ((Lr4) ++ (([(fb, cel 46 [.slice A l.length c, .int .i64 arg, .int .i64 t.pc, .slice A4 t.st.length cp4, .bool false, .bool false])]) ++ (([(b6, cel 30 (⟨0, 0, 0, 0, 0⟩ : Ev).cells)]) ++ ([(b8, cel 27 [.int .i64 0, .int .i64 0, .int .i64 0])]))))) rfl hL.symm ?_
          clear hL
          refine RL.nilCheck rfl rfl ?_
          refine RL.nil ?_
          exact ⟨rfl, ⟨_, rfl, rfl⟩, .inr (.inl ⟨e10, e11, trivial, b8, ⟨rfl, trivial⟩, List.Perm.refl _⟩)⟩
        · exact hS.hi 11 rfl (by kernel_rfl) e11
      · intro ρ L D hS
        rcases hS.sp with ⟨e10, e11, -, hρ, hL⟩ | ⟨e10, e11, -, b8, hρ, hL⟩ | ⟨e10, e11, -, b8, hρ, hL⟩
        · have u49 : ρ 49 = .pointer (some ⟨fb, 0, none⟩) := hS.dep ⟨5, Ground.data⟩ (by simp) rfl _ _ rfl rfl
          clear hS hρ
          obtain ⟨base, rfl⟩ := Has.base (ρ := ρ) (l := [(49, .pointer (some ⟨fb, 0, none⟩))]) ⟨u49, trivial⟩
          clear u49
          refine RL.perm (L' := ((Lr4) ++ (([(fb, cel 46 [.slice A l.length c, .int .i64 arg, .int .i64 t.pc, .slice A4 t.st.length cp4, .bool false, .bool false])]) ++ ([(b6, cel 30 (⟨0, 0, 0, 0, 0⟩ : Ev).cells)])))) rfl hL.symm ?_
          clear hL
          refine RL.fieldAddr rfl fd46_2 rfl ?_
          refine RL.nil ?_
          exact ⟨rfl, ⟨_, rfl, rfl⟩, .inl ⟨e10, e11, trivial, trivial, List.Perm.refl _⟩⟩
        · have u8 : ρ 8 = .pointer (some ⟨b8, 0, none⟩) := hρ.1
          have u49 : ρ 49 = .pointer (some ⟨fb, 0, none⟩) := hS.dep ⟨5, Ground.data⟩ (by simp) rfl _ _ rfl rfl
          clear hS hρ
          obtain ⟨base, rfl⟩ := Has.base (ρ := ρ) (l := [(8, .pointer (some ⟨b8, 0, none⟩)), (49, .pointer (some ⟨fb, 0, none⟩))]) ⟨u8, u49, trivial⟩
          clear u8 u49
          refine RL.perm (L' := ((Lr4) ++ (([(fb, cel 46 [.slice A l.length c, .int .i64 arg, .int .i64 t.pc, .slice A4 t.st.length cp4, .bool false, .bool false])]) ++ (([(b6, cel 30 (⟨0, 0, 0, 0, 0⟩ : Ev).cells)]) ++ ([(b8, cel 27 [.int .i64 0, .int .i64 0, .int .i64 0])]))))) rfl hL.symm ?_
          clear hL
          refine RL.fieldAddr rfl fd46_2 rfl ?_
          refine RL.nil ?_
          exact ⟨rfl, ⟨_, rfl, rfl⟩, .inr (.inl ⟨e10, e11, trivial, b8, ⟨rfl, trivial⟩, List.Perm.refl _⟩)⟩
        · exact hS.hi 11 rfl (by kernel_rfl) e11
      · intro ρ L D hS
        rcases hS.sp with ⟨e10, e11, -, hρ, hL⟩ | ⟨e10, e11, -, b8, hρ, hL⟩ | ⟨e10, e11, -, b8, hρ, hL⟩
        · have u50 : ρ 50 = .pointer (some ⟨fb, 0 + 2, none⟩) := hS.dep ⟨6, Ground.data⟩ (by simp) rfl _ _ rfl rfl
          clear hS hρ
          obtain ⟨base, rfl⟩ := Has.base (ρ := ρ) (l := [(50, .pointer (some ⟨fb, 0 + 2, none⟩))]) ⟨u50, trivial⟩
          clear u50
          refine RL.perm (L' := ((Lr4) ++ (([(fb, cel 46 [.slice A l.length c, .int .i64 arg, .int .i64 t.pc, .slice A4 t.st.length cp4, .bool false, .bool false])]) ++ ([(b6, cel 30 (⟨0, 0, 0, 0, 0⟩ : Ev).cells)])))) rfl hL.symm ?_
          clear hL
          refine RL.loadO rfl sc3 rfl rfl ?_
          refine RL.nil ?_
          exact ⟨rfl, ⟨_, rfl, rfl⟩, .inl ⟨e10, e11, trivial, trivial, List.Perm.refl _⟩⟩
        · have u8 : ρ 8 = .pointer (some ⟨b8, 0, none⟩) := hρ.1
          have u50 : ρ 50 = .pointer (some ⟨fb, 0 + 2, none⟩) := hS.dep ⟨6, Ground.data⟩ (by simp) rfl _ _ rfl rfl
          clear hS hρ
          obtain ⟨base, rfl⟩ := Has.base (ρ := ρ) (l := [(8, .pointer (some ⟨b8, 0, none⟩)), (50, .pointer (some ⟨fb, 0 + 2, none⟩))]) ⟨u8, u50, trivial⟩
          clear u8 u50
          refine RL.perm (L' := ((Lr4) ++ (([(fb, cel 46 [.slice A l.length c, .int .i64 arg, .int .i64 t.pc, .slice A4 t.st.length cp4, .bool false, .bool false])]) ++ (([(b6, cel 30 (⟨0, 0, 0, 0, 0⟩ : Ev).cells)]) ++ ([(b8, cel 27 [.int .i64 0, .int .i64 0, .int .i64 0])]))))) rfl hL.symm ?_
          clear hL
          refine RL.loadO rfl sc3 rfl rfl ?_
          refine RL.nil ?_
          exact ⟨rfl, ⟨_, rfl, rfl⟩, .inr (.inl ⟨e10, e11, trivial, b8, ⟨rfl, trivial⟩, List.Perm.refl _⟩)⟩
        · exact hS.hi 11 rfl (by kernel_rfl) e11
      · intro ρ L D hS
        rcases hS.sp with ⟨e10, e11, -, hρ, hL⟩ | ⟨e10, e11, -, b8, hρ, hL⟩ | ⟨e10, e11, -, b8, hρ, hL⟩
        · have u47 : ρ 47 = .slice A l.length c := hS.dep ⟨3, Ground.data⟩ (by simp) rfl _ _ rfl rfl
          have u51 : ρ 51 = .int .i64 t.pc := hS.dep ⟨7, Ground.data⟩ (by simp) rfl _ _ rfl rfl
          clear hS hρ
          obtain ⟨base, rfl⟩ := Has.base (ρ := ρ) (l := [(47, .slice A l.length c), (51, .int .i64 t.pc)]) ⟨u47, u51, trivial⟩
          clear u47 u51
          refine RL.perm (L' := ((Lr4) ++ (([(fb, cel 46 [.slice A l.length c, .int .i64 arg, .int .i64 t.pc, .slice A4 t.st.length cp4, .bool false, .bool false])]) ++ ([(b6, cel 30 (⟨0, 0, 0, 0, 0⟩ : Ev).cells)])))) rfl hL.symm ?_
          clear hL
          refine RL.indexAddr rfl sl28 rfl rfl (hA (by omega)) rfl (by omega) ?_
          refine RL.nil ?_
          exact ⟨rfl, ⟨_, rfl, rfl⟩, .inl ⟨e10, e11, trivial, trivial, List.Perm.refl _⟩⟩
        · have u8 : ρ 8 = .pointer (some ⟨b8, 0, none⟩) := hρ.1
          have u47 : ρ 47 = .slice A l.length c := hS.dep ⟨3, Ground.data⟩ (by simp) rfl _ _ rfl rfl
          have u51 : ρ 51 = .int .i64 t.pc := hS.dep ⟨7, Ground.data⟩ (by simp) rfl _ _ rfl rfl
          clear hS hρ
          obtain ⟨base, rfl⟩ := Has.base (ρ := ρ) (l := [(8, .pointer (some ⟨b8, 0, none⟩)), (47, .slice A l.length c), (51, .int .i64 t.pc)]) ⟨u8, u47, u51, trivial⟩
          clear u8 u47 u51
          refine RL.perm (L' := ((Lr4) ++ (([(fb, cel 46 [.slice A l.length c, .int .i64 arg, .int .i64 t.pc, .slice A4 t.st.length cp4, .bool false, .bool false])]) ++ (([(b6, cel 30 (⟨0, 0, 0, 0, 0⟩ : Ev).cells)]) ++ ([(b8, cel 27 [.int .i64 0, .int .i64 0, .int .i64 0])]))))) rfl hL.symm ?_
          clear hL
          refine RL.indexAddr rfl sl28 rfl rfl (hA (by omega)) rfl (by omega) ?_
          refine RL.nil ?_
          exact ⟨rfl, ⟨_, rfl, rfl⟩, .inr (.inl ⟨e10, e11, trivial, b8, ⟨rfl, trivial⟩, List.Perm.refl _⟩)⟩
        · exact hS.hi 11 rfl (by kernel_rfl) e11
      · intro ρ L D hS
        rcases hS.sp with ⟨e10, e11, -, hρ, hL⟩ | ⟨e10, e11, -, b8, hρ, hL⟩ | ⟨e10, e11, -, b8, hρ, hL⟩
        · have u52 : ρ 52 = .pointer (some ⟨bb, oo + t.pc * 3, none⟩) := hS.dep ⟨8, Ground.data⟩ (by simp) rfl _ _ rfl rfl
          clear hS hρ
          obtain ⟨base, rfl⟩ := Has.base (ρ := ρ) (l := [(52, .pointer (some ⟨bb, oo + t.pc * 3, none⟩))]) ⟨u52, trivial⟩
          clear u52
          refine RL.perm (L' := ((Lr4) ++ (([(fb, cel 46 [.slice A l.length c, .int .i64 arg, .int .i64 t.pc, .slice A4 t.st.length cp4, .bool false, .bool false])]) ++ ([(b6, cel 30 (⟨0, 0, 0, 0, 0⟩ : Ev).cells)])))) rfl hL.symm ?_
          clear hL
          refine RL.loadIA rfl ag27 rfl (elem_at Ins.len hc hx.ins) hbb (Ins.len _) ?_
          refine RL.nil ?_
          exact ⟨rfl, ⟨_, rfl, rfl⟩, .inl ⟨e10, e11, trivial, trivial, List.Perm.refl _⟩⟩
        · have u8 : ρ 8 = .pointer (some ⟨b8, 0, none⟩) := hρ.1
          have u52 : ρ 52 = .pointer (some ⟨bb, oo + t.pc * 3, none⟩) := hS.dep ⟨8, Ground.data⟩ (by simp) rfl _ _ rfl rfl
          clear hS hρ
          obtain ⟨base, rfl⟩ := Has.base (ρ := ρ) (l := [(8, .pointer (some ⟨b8, 0, none⟩)), (52, .pointer (some ⟨bb, oo + t.pc * 3, none⟩))]) ⟨u8, u52, trivial⟩
          clear u8 u52
          refine RL.perm (L' := ((Lr4) ++ (([(fb, cel 46 [.slice A l.length c, .int .i64 arg, .int .i64 t.pc, .slice A4 t.st.length cp4, .bool false, .bool false])]) ++ (([(b6, cel 30 (⟨0, 0, 0, 0, 0⟩ : Ev).cells)]) ++ ([(b8, cel 27 [.int .i64 0, .int .i64 0, .int .i64 0])]))))) rfl hL.symm ?_
          clear hL
          refine RL.loadIA rfl ag27 rfl (elem_at Ins.len hc hx.ins) hbb (Ins.len _) ?_
          refine RL.nil ?_
          exact ⟨rfl, ⟨_, rfl, rfl⟩, .inr (.inl ⟨e10, e11, trivial, b8, ⟨rfl, trivial⟩, List.Perm.refl _⟩)⟩
        · exact hS.hi 11 rfl (by kernel_rfl) e11
      · intro ρ L D hS
        rcases hS.sp with ⟨e10, e11, -, hρ, hL⟩ | ⟨e10, e11, -, b8, hρ, hL⟩ | ⟨e10, e11, -, b8, hρ, hL⟩
        · clear hS hρ
          obtain ⟨base, rfl⟩ := Has.base (ρ := ρ) (l := []) trivial
          refine RL.perm (L' := ((Lr4) ++ (([(fb, cel 46 [.slice A l.length c, .int .i64 arg, .int .i64 t.pc, .slice A4 t.st.length cp4, .bool false, .bool false])]) ++ ([(b6, cel 30 (⟨0, 0, 0, 0, 0⟩ : Ev).cells)])))) rfl hL.symm ?_
          clear hL
          refine RL.alloc rfl rfl zt27 ?_
          intro b8 hb8
          dsimp only at hb8
          refine RL.nil ?_
          exact ⟨rfl, ⟨_, rfl, trivial⟩, .inr (.inl ⟨rfl, e11, trivial, b8, ⟨rfl, trivial⟩, (by classical exact List.perm_iff_count.2 (fun z => by simp only [List.count_append, List.count_cons, List.count_nil, List.cons_append, List.nil_append, List.append_nil, List.set_cons_zero, List.set_cons_succ] <;> omega))⟩)⟩
        · exact hS.me e10
        · exact hS.hi 11 rfl (by kernel_rfl) e11
      · intro ρ L D hS
        rcases hS.sp with ⟨e10, e11, -, hρ, hL⟩ | ⟨e10, e11, -, b8, hρ, hL⟩ | ⟨e10, e11, -, b8, hρ, hL⟩
        · exact hS.lo 10 (by kernel_rfl) e10
        · have u8 : ρ 8 = .pointer (some ⟨b8, 0, none⟩) := hρ.1
          have u53 : ρ 53 = .agg x.cells.toArray := hS.dep ⟨9, Ground.data⟩ (by simp) rfl _ _ rfl rfl
          clear hS hρ
          obtain ⟨base, rfl⟩ := Has.base (ρ := ρ) (l := [(8, .pointer (some ⟨b8, 0, none⟩)), (53, .agg x.cells.toArray)]) ⟨u8, u53, trivial⟩
          clear u8 u53
          refine RL.perm (L' := ((Lr4) ++ (([(fb, cel 46 [.slice A l.length c, .int .i64 arg, .int .i64 t.pc, .slice A4 t.st.length cp4, .bool false, .bool false])]) ++ (([(b6, cel 30 (⟨0, 0, 0, 0, 0⟩ : Ev).cells)]) ++ ([(b8, cel 27 [.int .i64 0, .int .i64 0, .int .i64 0])]))))) rfl hL.symm ?_
          clear hL
          refine RL.stA rfl rfl ag27.size rfl rfl (Ins.len _) rfl (Ins.one x) ?_
          refine RL.nil ?_
          exact ⟨rfl, ⟨_, rfl, trivial⟩, .inr (.inr (⟨e10, rfl, trivial, b8, ⟨rfl, trivial⟩, (by classical exact List.perm_iff_count.2 (fun z => by simp only [List.count_append, List.count_cons, List.count_nil, List.cons_append, List.nil_append, List.append_nil, List.set_cons_zero, List.set_cons_succ] <;> omega))⟩))⟩
        · exact hS.me e11
      · intro ρ L D hD hT hfix hsp
        rcases hsp with ⟨e10, e11, -, hρ, hL⟩ | ⟨e10, e11, -, b8, hρ, hL⟩ | ⟨e10, e11, -, b8, hρ, hL⟩
        · exact done_no hD 10 rfl e10
        · exact done_no hD 11 rfl e11
        · have u0 : ρ 0 = .pointer (some ⟨fb, 0, none⟩) := hfix 0 (by decide)
          have u2 : ρ 2 = .int .i64 u := hfix 2 (by decide)
          have u6 : ρ 6 = .pointer (some ⟨b6, 0, none⟩) := hfix 6 (by decide)
          have u8 : ρ 8 = .pointer (some ⟨b8, 0, none⟩) := hρ.1
          clear hT hfix hD hρ
          obtain ⟨base, rfl⟩ := Has.base (ρ := ρ) (l := [(0, .pointer (some ⟨fb, 0, none⟩)), (2, .int .i64 u), (6, .pointer (some ⟨b6, 0, none⟩)), (8, .pointer (some ⟨b8, 0, none⟩))]) ⟨u0, u2, u6, u8, trivial⟩
          clear u0 u2 u6 u8
          refine ⟨_, hL.symm, ((Lr4) ++ (([(fb, cel 46 [.slice A l.length c, .int .i64 arg, .int .i64 t.pc, .slice A4 t.st.length cp4, .bool false, .bool false])]) ++ (([(b6, cel 30 (⟨0, 0, 0, 0, 0⟩ : Ev).cells)]) ++ ([(b8, cel 27 x.cells)])))), List.Sublist.append (List.Sublist.refl _) (List.Sublist.append (List.Sublist.refl _) (List.Sublist.append (List.Sublist.refl _) (List.Sublist.refl _))), ?_⟩
          refine X.seq ?_
          refine X.region rfl ?_
          refine RL.move rfl ?_
          refine RL.move rfl ?_
          refine RL.nilCheck rfl rfl ?_
          refine RL.fieldAddr rfl fd46_2 rfl ?_
          refine RL.loadO rfl sc3 rfl rfl ?_
          refine RL.add rfl rfl rfl (by omega) ?_
          refine RL.nilCheck rfl rfl ?_
          refine RL.fieldAddr rfl fd46_2 rfl ?_
          refine RL.stI rfl rfl sc3.size rfl rfl (by first | exact Nat.zero_lt_one | decide | simp) ?_
          refine RL.nil ?_
          refine X.seq ?_
          refine X.region rfl ?_
          refine RL.assign rfl ?_
          refine RL.assign rfl ?_
          refine RL.nil ?_
          refine X.seq ?_
          refine X.region rfl ?_
          refine RL.fieldAddr rfl fd27_0 rfl ?_
          refine RL.loadO rfl sc3 rfl rfl ?_
          refine RL.nil ?_
          refine X.block ?_
          refine X.seq ?_
          refine X.region rfl ?_
          refine RL.cmp_s rfl rfl rfl rfl (fun hk1 => ?_) (fun hk1 => ?_)
          · replace hk1 : (_ : Int) = _ := hk1
            have hst : stepI x arg u t = .go u ⟨t.pc + 1, t.st ++ [x.a], false, false⟩ := by unfold stepI; simp [hk1]
            refine RL.assign rfl ?_
            refine RL.nil ?_
            refine X.cond_t rfl ?_
            refine X.set [.val (.pointer (some ⟨fb, 0, none⟩)), .val (.pointer (some ⟨fb, 0, none⟩)), .val (.pointer (some ⟨fb, 0, none⟩)), .val (.pointer (some ⟨fb, 0 + 3, none⟩)), .val (.slice A4 t.st.length cp4), .val (.pointer (some ⟨b8, 0 + 1, none⟩)), .val (.int .i64 x.a), .any, .any, .val (.pointer (some ⟨fb, 0, none⟩)), .val (.pointer (some ⟨fb, 0 + 3, none⟩)), .any] [[], [], [1], [1, 2], [1, 2, 3], [], [5], [5, 6], [1, 2, 3, 4, 5, 6, 7], [0, 1, 2, 3, 4, 5, 6, 7, 8], [0, 1, 2, 3, 4, 5, 6, 7, 8, 9], [0, 1, 2, 3, 4, 5, 6, 7, 8, 9, 10]] (fun D ρ L => (D 7 = false ∧ D 8 = false ∧ D 11 = false ∧ True ∧ Has ρ [] ∧ L.Perm ((Lr4) ++ (([(fb, cel 46 [.slice A l.length c, .int .i64 arg, .int .i64 ((t.pc : Int) + 1), .slice A4 t.st.length cp4, .bool false, .bool false])]) ++ (([(b6, cel 30 (⟨0, 0, 0, 0, 0⟩ : Ev).cells)]) ++ ([(b8, cel 27 x.cells)]))))) ∨ (D 7 = true ∧ D 8 = false ∧ D 11 = false ∧ True ∧ ∃ bb5 : Nat, Has ρ [(73, .slice (some ⟨bb5, 0, none⟩) 1 1)] ∧ L.Perm ((Lr4) ++ (([(fb, cel 46 [.slice A l.length c, .int .i64 arg, .int .i64 ((t.pc : Int) + 1), .slice A4 t.st.length cp4, .bool false, .bool false])]) ++ (([(b6, cel 30 (⟨0, 0, 0, 0, 0⟩ : Ev).cells)]) ++ (([(b8, cel 27 x.cells)]) ++ ([(bb5, cel 2 [.int .i64 x.a])])))))) ∨ (D 7 = true ∧ D 8 = true ∧ D 11 = false ∧ True ∧ ∃ bb5 : Nat, ∃ A5 : Option Addr, ∃ cp5 : Nat, ∃ Lr5 : List Ent, (Row 2 1 (.slice A5 (t.st ++ [x.a]).length cp5) (ints (t.st ++ [x.a])) Lr5) ∧ Has ρ [(73, .slice (some ⟨bb5, 0, none⟩) 1 1), (74, .slice A5 (t.st ++ [x.a]).length cp5)] ∧ L.Perm ((Lr5) ++ (([(fb, cel 46 [.slice A l.length c, .int .i64 arg, .int .i64 ((t.pc : Int) + 1), .slice A4 t.st.length cp4, .bool false, .bool false])]) ++ (([(b6, cel 30 (⟨0, 0, 0, 0, 0⟩ : Ev).cells)]) ++ (([(b8, cel 27 x.cells)]) ++ ([(bb5, cel 2 [.int .i64 x.a])])))))) ∨ (D 7 = true ∧ D 8 = true ∧ D 11 = true ∧ True ∧ ∃ bb5 : Nat, ∃ A5 : Option Addr, ∃ cp5 : Nat, ∃ Lr5 : List Ent, (Row 2 1 (.slice A5 (t.st ++ [x.a]).length cp5) (ints (t.st ++ [x.a])) Lr5) ∧ Has ρ [(73, .slice (some ⟨bb5, 0, none⟩) 1 1), (74, .slice A5 (t.st ++ [x.a]).length cp5)] ∧ L.Perm ((Lr5) ++ (([(fb, cel 46 [.slice A l.length c, .int .i64 arg, .int .i64 ((t.pc : Int) + 1), .slice A5 (t.st ++ [x.a]).length cp5, .bool false, .bool false])]) ++ (([(b6, cel 30 (⟨0, 0, 0, 0, 0⟩ : Ev).cells)]) ++ (([(b8, cel 27 x.cells)]) ++ ([(bb5, cel 2 [.int .i64 x.a])]))))))) rfl (by kernel_rfl) (by kernel_rfl) (by kernel_rfl) (by kernel_rfl) (fun D hD => .inl ⟨hD 7, hD 8, hD 11, trivial, trivial, (List.Perm.refl _)⟩) ⟨?_, ?_, ?_, ?_, ?_, ?_, ?_, ?_, ?_, ?_, ?_, ?_, trivial⟩ ?_
            · intro ρ L D hS
              rcases hS.sp with ⟨e7, e8, e11, -, hρ, hL⟩ | ⟨e7, e8, e11, -, bb5, hρ, hL⟩ | ⟨e7, e8, e11, -, bb5, A5, cp5, Lr5, hp0, hρ, hL⟩ | ⟨e7, e8, e11, -, bb5, A5, cp5, Lr5, hp0, hρ, hL⟩
              · have u0 : ρ 0 = .pointer (some ⟨fb, 0, none⟩) := hS.fix 0 (by decide)
                clear hS hρ
                obtain ⟨base, rfl⟩ := Has.base (ρ := ρ) (l := [(0, .pointer (some ⟨fb, 0, none⟩))]) ⟨u0, trivial⟩
                clear u0
                refine RL.perm (L' := ((Lr4) ++ (([(fb, cel 46 [.slice A l.length c, .int .i64 arg, .int .i64 ((t.pc : Int) + 1), .slice A4 t.st.length cp4, .bool false, .bool false])]) ++ (([(b6, cel 30 (⟨0, 0, 0, 0, 0⟩ : Ev).cells)]) ++ ([(b8, cel 27 x.cells)]))))) rfl hL.symm ?_
                clear hL
                refine RL.move rfl ?_
                refine RL.nil ?_
                exact ⟨rfl, ⟨_, rfl, rfl⟩, .inl ⟨e7, e8, e11, trivial, trivial, List.Perm.refl _⟩⟩
              · have u0 : ρ 0 = .pointer (some ⟨fb, 0, none⟩) := hS.fix 0 (by decide)
                have u73 : ρ 73 = .slice (some ⟨bb5, 0, none⟩) 1 1 := hρ.1
                clear hS hρ
                obtain ⟨base, rfl⟩ := Has.base (ρ := ρ) (l := [(0, .pointer (some ⟨fb, 0, none⟩)), (73, .slice (some ⟨bb5, 0, none⟩) 1 1)]) ⟨u0, u73, trivial⟩
                clear u0 u73
                refine RL.perm (L' := ((Lr4) ++ (([(fb, cel 46 [.slice A l.length c, .int .i64 arg, .int .i64 ((t.pc : Int) + 1), .slice A4 t.st.length cp4, .bool false, .bool false])]) ++ (([(b6, cel 30 (⟨0, 0, 0, 0, 0⟩ : Ev).cells)]) ++ (([(b8, cel 27 x.cells)]) ++ ([(bb5, cel 2 [.int .i64 x.a])])))))) rfl hL.symm ?_
                clear hL
                refine RL.move rfl ?_
                refine RL.nil ?_
                exact ⟨rfl, ⟨_, rfl, rfl⟩, .inr (.inl ⟨e7, e8, e11, trivial, bb5, ⟨rfl, trivial⟩, List.Perm.refl _⟩)⟩
              · have u0 : ρ 0 = .pointer (some ⟨fb, 0, none⟩) := hS.fix 0 (by decide)
                have u73 : ρ 73 = .slice (some ⟨bb5, 0, none⟩) 1 1 := hρ.1
                have u74 : ρ 74 = .slice A5 (t.st ++ [x.a]).length cp5 := hρ.2.1
                clear hS hρ
                obtain ⟨base, rfl⟩ := Has.base (ρ := ρ) (l := [(0, .pointer (some ⟨fb, 0, none⟩)), (73, .slice (some ⟨bb5, 0, none⟩) 1 1), (74, .slice A5 (t.st ++ [x.a]).length cp5)]) ⟨u0, u73, u74, trivial⟩
                clear u0 u73 u74
                refine RL.perm (L' := ((Lr5) ++ (([(fb, cel 46 [.slice A l.length c, .int .i64 arg, .int .i64 ((t.pc : Int) + 1), .slice A4 t.st.length cp4, .bool false, .bool false])]) ++ (([(b6, cel 30 (⟨0, 0, 0, 0, 0⟩ : Ev).cells)]) ++ (([(b8, cel 27 x.cells)]) ++ ([(bb5, cel 2 [.int .i64 x.a])])))))) rfl hL.symm ?_
                clear hL
                refine RL.move rfl ?_
                refine RL.nil ?_
                exact ⟨rfl, ⟨_, rfl, rfl⟩, .inr (.inr (.inl ⟨e7, e8, e11, trivial, bb5, A5, cp5, Lr5, hp0, ⟨rfl, rfl, trivial⟩, List.Perm.refl _⟩))⟩
              · exact hS.hi 11 rfl (by kernel_rfl) e11
            · intro ρ L D hS
              rcases hS.sp with ⟨e7, e8, e11, -, hρ, hL⟩ | ⟨e7, e8, e11, -, bb5, hρ, hL⟩ | ⟨e7, e8, e11, -, bb5, A5, cp5, Lr5, hp0, hρ, hL⟩ | ⟨e7, e8, e11, -, bb5, A5, cp5, Lr5, hp0, hρ, hL⟩
              · have u0 : ρ 0 = .pointer (some ⟨fb, 0, none⟩) := hS.fix 0 (by decide)
                clear hS hρ
                obtain ⟨base, rfl⟩ := Has.base (ρ := ρ) (l := [(0, .pointer (some ⟨fb, 0, none⟩))]) ⟨u0, trivial⟩
                clear u0
                refine RL.perm (L' := ((Lr4) ++ (([(fb, cel 46 [.slice A l.length c, .int .i64 arg, .int .i64 ((t.pc : Int) + 1), .slice A4 t.st.length cp4, .bool false, .bool false])]) ++ (([(b6, cel 30 (⟨0, 0, 0, 0, 0⟩ : Ev).cells)]) ++ ([(b8, cel 27 x.cells)]))))) rfl hL.symm ?_
                clear hL
                refine RL.move rfl ?_
                refine RL.nil ?_
                exact ⟨rfl, ⟨_, rfl, rfl⟩, .inl ⟨e7, e8, e11, trivial, trivial, List.Perm.refl _⟩⟩
              · have u0 : ρ 0 = .pointer (some ⟨fb, 0, none⟩) := hS.fix 0 (by decide)
                have u73 : ρ 73 = .slice (some ⟨bb5, 0, none⟩) 1 1 := hρ.1
                clear hS hρ
                obtain ⟨base, rfl⟩ := Has.base (ρ := ρ) (l := [(0, .pointer (some ⟨fb, 0, none⟩)), (73, .slice (some ⟨bb5, 0, none⟩) 1 1)]) ⟨u0, u73, trivial⟩
                clear u0 u73
                refine RL.perm (L' := ((Lr4) ++ (([(fb, cel 46 [.slice A l.length c, .int .i64 arg, .int .i64 ((t.pc : Int) + 1), .slice A4 t.st.length cp4, .bool false, .bool false])]) ++ (([(b6, cel 30 (⟨0, 0, 0, 0, 0⟩ : Ev).cells)]) ++ (([(b8, cel 27 x.cells)]) ++ ([(bb5, cel 2 [.int .i64 x.a])])))))) rfl hL.symm ?_
                clear hL
                refine RL.move rfl ?_
                refine RL.nil ?_
                exact ⟨rfl, ⟨_, rfl, rfl⟩, .inr (.inl ⟨e7, e8, e11, trivial, bb5, ⟨rfl, trivial⟩, List.Perm.refl _⟩)⟩
              · exact hS.hi 8 rfl (by kernel_rfl) e8
              · exact hS.hi 8 rfl (by kernel_rfl) e8
            · intro ρ L D hS
              rcases hS.sp with ⟨e7, e8, e11, -, hρ, hL⟩ | ⟨e7, e8, e11, -, bb5, hρ, hL⟩ | ⟨e7, e8, e11, -, bb5, A5, cp5, Lr5, hp0, hρ, hL⟩ | ⟨e7, e8, e11, -, bb5, A5, cp5, Lr5, hp0, hρ, hL⟩
              · have u67 : ρ 67 = .pointer (some ⟨fb, 0, none⟩) := hS.dep ⟨1, Ground.data⟩ (by simp) rfl _ _ rfl rfl
                clear hS hρ
                obtain ⟨base, rfl⟩ := Has.base (ρ := ρ) (l := [(67, .pointer (some ⟨fb, 0, none⟩))]) ⟨u67, trivial⟩
                clear u67
                refine RL.perm (L' := ((Lr4) ++ (([(fb, cel 46 [.slice A l.length c, .int .i64 arg, .int .i64 ((t.pc : Int) + 1), .slice A4 t.st.length cp4, .bool false, .bool false])]) ++ (([(b6, cel 30 (⟨0, 0, 0, 0, 0⟩ : Ev).cells)]) ++ ([(b8, cel 27 x.cells)]))))) rfl hL.symm ?_
                clear hL
                refine RL.nilCheck rfl rfl ?_
                refine RL.nil ?_
                exact ⟨rfl, ⟨_, rfl, rfl⟩, .inl ⟨e7, e8, e11, trivial, trivial, List.Perm.refl _⟩⟩
              · have u67 : ρ 67 = .pointer (some ⟨fb, 0, none⟩) := hS.dep ⟨1, Ground.data⟩ (by simp) rfl _ _ rfl rfl
                have u73 : ρ 73 = .slice (some ⟨bb5, 0, none⟩) 1 1 := hρ.1
                clear hS hρ
                obtain ⟨base, rfl⟩ := Has.base (ρ := ρ) (l := [(67, .pointer (some ⟨fb, 0, none⟩)), (73, .slice (some ⟨bb5, 0, none⟩) 1 1)]) ⟨u67, u73, trivial⟩
                clear u67 u73
                refine RL.perm (L' := ((Lr4) ++ (([(fb, cel 46 [.slice A l.length c, .int .i64 arg, .int .i64 ((t.pc : Int) + 1), .slice A4 t.st.length cp4, .bool false, .bool false])]) ++ (([(b6, cel 30 (⟨0, 0, 0, 0, 0⟩ : Ev).cells)]) ++ (([(b8, cel 27 x.cells)]) ++ ([(bb5, cel 2 [.int .i64 x.a])])))))) rfl hL.symm ?_
                clear hL
                refine RL.nilCheck rfl rfl ?_
                refine RL.nil ?_
                exact ⟨rfl, ⟨_, rfl, rfl⟩, .inr (.inl ⟨e7, e8, e11, trivial, bb5, ⟨rfl, trivial⟩, List.Perm.refl _⟩)⟩
              · exact hS.hi 8 rfl (by kernel_rfl) e8
              · exact hS.hi 8 rfl (by kernel_rfl) e8
            · intro ρ L D hS
              rcases hS.sp with ⟨e7, e8, e11, -, hρ, hL⟩ | ⟨e7, e8, e11, -, bb5, hρ, hL⟩ | ⟨e7, e8, e11, -, bb5, A5, cp5, Lr5, hp0, hρ, hL⟩ | ⟨e7, e8, e11, -, bb5, A5, cp5, Lr5, hp0, hρ, hL⟩
              · have u68 : ρ 68 = .pointer (some ⟨fb, 0, none⟩) := hS.dep ⟨2, Ground.data⟩ (by simp) rfl _ _ rfl rfl
                clear hS hρ
                obtain ⟨base, rfl⟩ := Has.base (ρ := ρ) (l := [(68, .pointer (some ⟨fb, 0, none⟩))]) ⟨u68, trivial⟩
                clear u68
                refine RL.perm (L' := ((Lr4) ++ (([(fb, cel 46 [.slice A l.length c, .int .i64 arg, .int .i64 ((t.pc : Int) + 1), .slice A4 t.st.length cp4, .bool false, .bool false])]) ++ (([(b6, cel 30 (⟨0, 0, 0, 0, 0⟩ : Ev).cells)]) ++ ([(b8, cel 27 x.cells)]))))) rfl hL.symm ?_
                clear hL
                refine RL.fieldAddr rfl fd46_3 rfl ?_
                refine RL.nil ?_
                exact ⟨rfl, ⟨_, rfl, rfl⟩, .inl ⟨e7, e8, e11, trivial, trivial, List.Perm.refl _⟩⟩
              · have u68 : ρ 68 = .pointer (some ⟨fb, 0, none⟩) := hS.dep ⟨2, Ground.data⟩ (by simp) rfl _ _ rfl rfl
                have u73 : ρ 73 = .slice (some ⟨bb5, 0, none⟩) 1 1 := hρ.1
                clear hS hρ
                obtain ⟨base, rfl⟩ := Has.base (ρ := ρ) (l := [(68, .pointer (some ⟨fb, 0, none⟩)), (73, .slice (some ⟨bb5, 0, none⟩) 1 1)]) ⟨u68, u73, trivial⟩
                clear u68 u73
                refine RL.perm (L' := ((Lr4) ++ (([(fb, cel 46 [.slice A l.length c, .int .i64 arg, .int .i64 ((t.pc : Int) + 1), .slice A4 t.st.length cp4, .bool false, .bool false])]) ++ (([(b6, cel 30 (⟨0, 0, 0, 0, 0⟩ : Ev).cells)]) ++ (([(b8, cel 27 x.cells)]) ++ ([(bb5, cel 2 [.int .i64 x.a])])))))) rfl hL.symm ?_
                clear hL
                refine RL.fieldAddr rfl fd46_3 rfl ?_
                refine RL.nil ?_
                exact ⟨rfl, ⟨_, rfl, rfl⟩, .inr (.inl ⟨e7, e8, e11, trivial, bb5, ⟨rfl, trivial⟩, List.Perm.refl _⟩)⟩
              · exact hS.hi 8 rfl (by kernel_rfl) e8
              · exact hS.hi 8 rfl (by kernel_rfl) e8
            · intro ρ L D hS
              rcases hS.sp with ⟨e7, e8, e11, -, hρ, hL⟩ | ⟨e7, e8, e11, -, bb5, hρ, hL⟩ | ⟨e7, e8, e11, -, bb5, A5, cp5, Lr5, hp0, hρ, hL⟩ | ⟨e7, e8, e11, -, bb5, A5, cp5, Lr5, hp0, hρ, hL⟩
              · have u69 : ρ 69 = .pointer (some ⟨fb, 0 + 3, none⟩) := hS.dep ⟨3, Ground.data⟩ (by simp) rfl _ _ rfl rfl
                clear hS hρ
                obtain ⟨base, rfl⟩ := Has.base (ρ := ρ) (l := [(69, .pointer (some ⟨fb, 0 + 3, none⟩))]) ⟨u69, trivial⟩
                clear u69
                refine RL.perm (L' := ((Lr4) ++ (([(fb, cel 46 [.slice A l.length c, .int .i64 arg, .int .i64 ((t.pc : Int) + 1), .slice A4 t.st.length cp4, .bool false, .bool false])]) ++ (([(b6, cel 30 (⟨0, 0, 0, 0, 0⟩ : Ev).cells)]) ++ ([(b8, cel 27 x.cells)]))))) rfl hL.symm ?_
                clear hL
                refine RL.loadO rfl sc35 rfl rfl ?_
                refine RL.nil ?_
                exact ⟨rfl, ⟨_, rfl, rfl⟩, .inl ⟨e7, e8, e11, trivial, trivial, List.Perm.refl _⟩⟩
              · have u69 : ρ 69 = .pointer (some ⟨fb, 0 + 3, none⟩) := hS.dep ⟨3, Ground.data⟩ (by simp) rfl _ _ rfl rfl
                have u73 : ρ 73 = .slice (some ⟨bb5, 0, none⟩) 1 1 := hρ.1
                clear hS hρ
                obtain ⟨base, rfl⟩ := Has.base (ρ := ρ) (l := [(69, .pointer (some ⟨fb, 0 + 3, none⟩)), (73, .slice (some ⟨bb5, 0, none⟩) 1 1)]) ⟨u69, u73, trivial⟩
                clear u69 u73
                refine RL.perm (L' := ((Lr4) ++ (([(fb, cel 46 [.slice A l.length c, .int .i64 arg, .int .i64 ((t.pc : Int) + 1), .slice A4 t.st.length cp4, .bool false, .bool false])]) ++ (([(b6, cel 30 (⟨0, 0, 0, 0, 0⟩ : Ev).cells)]) ++ (([(b8, cel 27 x.cells)]) ++ ([(bb5, cel 2 [.int .i64 x.a])])))))) rfl hL.symm ?_
                clear hL
                refine RL.loadO rfl sc35 rfl rfl ?_
                refine RL.nil ?_
                exact ⟨rfl, ⟨_, rfl, rfl⟩, .inr (.inl ⟨e7, e8, e11, trivial, bb5, ⟨rfl, trivial⟩, List.Perm.refl _⟩)⟩
              · exact hS.hi 8 rfl (by kernel_rfl) e8
              · exact hS.hi 8 rfl (by kernel_rfl) e8
            · intro ρ L D hS
              rcases hS.sp with ⟨e7, e8, e11, -, hρ, hL⟩ | ⟨e7, e8, e11, -, bb5, hρ, hL⟩ | ⟨e7, e8, e11, -, bb5, A5, cp5, Lr5, hp0, hρ, hL⟩ | ⟨e7, e8, e11, -, bb5, A5, cp5, Lr5, hp0, hρ, hL⟩
              · have u8 : ρ 8 = .pointer (some ⟨b8, 0, none⟩) := hS.fix 8 (by decide)
                clear hS hρ
                obtain ⟨base, rfl⟩ := Has.base (ρ := ρ) (l := [(8, .pointer (some ⟨b8, 0, none⟩))]) ⟨u8, trivial⟩
                clear u8
                refine RL.perm (L' := ((Lr4) ++ (([(fb, cel 46 [.slice A l.length c, .int .i64 arg, .int .i64 ((t.pc : Int) + 1), .slice A4 t.st.length cp4, .bool false, .bool false])]) ++ (([(b6, cel 30 (⟨0, 0, 0, 0, 0⟩ : Ev).cells)]) ++ ([(b8, cel 27 x.cells)]))))) rfl hL.symm ?_
                clear hL
                refine RL.fieldAddr rfl fd27_1 rfl ?_
                refine RL.nil ?_
                exact ⟨rfl, ⟨_, rfl, rfl⟩, .inl ⟨e7, e8, e11, trivial, trivial, List.Perm.refl _⟩⟩
              · exact hS.hi 7 rfl (by kernel_rfl) e7
              · exact hS.hi 7 rfl (by kernel_rfl) e7
              · exact hS.hi 7 rfl (by kernel_rfl) e7
            · intro ρ L D hS
              rcases hS.sp with ⟨e7, e8, e11, -, hρ, hL⟩ | ⟨e7, e8, e11, -, bb5, hρ, hL⟩ | ⟨e7, e8, e11, -, bb5, A5, cp5, Lr5, hp0, hρ, hL⟩ | ⟨e7, e8, e11, -, bb5, A5, cp5, Lr5, hp0, hρ, hL⟩
              · have u71 : ρ 71 = .pointer (some ⟨b8, 0 + 1, none⟩) := hS.dep ⟨5, Ground.data⟩ (by simp) rfl _ _ rfl rfl
                clear hS hρ
                obtain ⟨base, rfl⟩ := Has.base (ρ := ρ) (l := [(71, .pointer (some ⟨b8, 0 + 1, none⟩))]) ⟨u71, trivial⟩
                clear u71
                refine RL.perm (L' := ((Lr4) ++ (([(fb, cel 46 [.slice A l.length c, .int .i64 arg, .int .i64 ((t.pc : Int) + 1), .slice A4 t.st.length cp4, .bool false, .bool false])]) ++ (([(b6, cel 30 (⟨0, 0, 0, 0, 0⟩ : Ev).cells)]) ++ ([(b8, cel 27 x.cells)]))))) rfl hL.symm ?_
                clear hL
                refine RL.loadO rfl sc3 rfl rfl ?_
                refine RL.nil ?_
                exact ⟨rfl, ⟨_, rfl, rfl⟩, .inl ⟨e7, e8, e11, trivial, trivial, List.Perm.refl _⟩⟩
              · exact hS.hi 7 rfl (by kernel_rfl) e7
              · exact hS.hi 7 rfl (by kernel_rfl) e7
              · exact hS.hi 7 rfl (by kernel_rfl) e7
            · intro ρ L D hS
              rcases hS.sp with ⟨e7, e8, e11, -, hρ, hL⟩ | ⟨e7, e8, e11, -, bb5, hρ, hL⟩ | ⟨e7, e8, e11, -, bb5, A5, cp5, Lr5, hp0, hρ, hL⟩ | ⟨e7, e8, e11, -, bb5, A5, cp5, Lr5, hp0, hρ, hL⟩
              · have u72 : ρ 72 = .int .i64 x.a := hS.dep ⟨6, Ground.data⟩ (by simp) rfl _ _ rfl rfl
                clear hS hρ
                obtain ⟨base, rfl⟩ := Has.base (ρ := ρ) (l := [(72, .int .i64 x.a)]) ⟨u72, trivial⟩
                clear u72
                refine RL.perm (L' := ((Lr4) ++ (([(fb, cel 46 [.slice A l.length c, .int .i64 arg, .int .i64 ((t.pc : Int) + 1), .slice A4 t.st.length cp4, .bool false, .bool false])]) ++ (([(b6, cel 30 (⟨0, 0, 0, 0, 0⟩ : Ev).cells)]) ++ ([(b8, cel 27 x.cells)]))))) rfl hL.symm ?_
                clear hL
                refine RL.bs1I rfl rfl sl35 zt2 rfl ?_
                intro bb5 hbb5
                refine RL.nil ?_
                exact ⟨rfl, ⟨_, rfl, trivial⟩, .inr (.inl ⟨rfl, e8, e11, trivial, bb5, ⟨rfl, trivial⟩, (by classical exact List.perm_iff_count.2 (fun z => by simp only [List.count_append, List.count_cons, List.count_nil, List.cons_append, List.nil_append, List.append_nil, List.set_cons_zero, List.set_cons_succ] <;> omega))⟩)⟩
              · exact hS.me e7
              · exact hS.hi 8 rfl (by kernel_rfl) e8
              · exact hS.hi 8 rfl (by kernel_rfl) e8
            · intro ρ L D hS
              rcases hS.sp with ⟨e7, e8, e11, -, hρ, hL⟩ | ⟨e7, e8, e11, -, bb5, hρ, hL⟩ | ⟨e7, e8, e11, -, bb5, A5, cp5, Lr5, hp0, hρ, hL⟩ | ⟨e7, e8, e11, -, bb5, A5, cp5, Lr5, hp0, hρ, hL⟩
              · exact hS.lo 7 (by kernel_rfl) e7
              · have u70 : ρ 70 = .slice A4 t.st.length cp4 := hS.dep ⟨4, Ground.data⟩ (by simp) rfl _ _ rfl rfl
                have u73 : ρ 73 = .slice (some ⟨bb5, 0, none⟩) 1 1 := hρ.1
                clear hS hρ
                obtain ⟨base, rfl⟩ := Has.base (ρ := ρ) (l := [(70, .slice A4 t.st.length cp4), (73, .slice (some ⟨bb5, 0, none⟩) 1 1)]) ⟨u70, u73, trivial⟩
                clear u70 u73
                refine RL.perm (L' := ((Lr4) ++ (([(fb, cel 46 [.slice A l.length c, .int .i64 arg, .int .i64 ((t.pc : Int) + 1), .slice A4 t.st.length cp4, .bool false, .bool false])]) ++ (([(b6, cel 30 (⟨0, 0, 0, 0, 0⟩ : Ev).cells)]) ++ (([(b8, cel 27 x.cells)]) ++ ([(bb5, cel 2 [.int .i64 x.a])])))))) rfl hL.symm ?_
                clear hL
                refine RL.perm (L' := (bb5, cel 2 [.int .i64 x.a]) :: (Lr4 ++ [(fb, cel 46 [.slice A l.length c, .int .i64 arg, .int .i64 ((t.pc : Int) + 1), .slice A4 t.st.length cp4, .bool false, .bool false]), (b6, cel 30 (⟨0, 0, 0, 0, 0⟩ : Ev).cells), (b8, cel 27 x.cells)])) rfl (by classical exact List.perm_iff_count.2 (fun z => by simp only [List.count_append, List.count_cons, List.count_nil, List.cons_append, List.nil_append, List.set_cons_zero, List.set_cons_succ] <;> omega)) ?_
                refine RL.app1I (Lr := Lr4) (Lz := [(fb, cel 46 [.slice A l.length c, .int .i64 arg, .int .i64 ((t.pc : Int) + 1), .slice A4 t.st.length cp4, .bool false, .bool false]), (b6, cel 30 (⟨0, 0, 0, 0, 0⟩ : Ev).cells), (b8, cel 27 x.cells)]) rfl rfl sl35 el_i64 Try.underlying35 (List.Perm.refl _) rfl rfl hr4 (by rw [ints_length]; omega) (n := (t.st ++ [x.a]).length) (by rw [ints_length]; simp) ?_
                intro A5 cp5 Lr5 hr5
                rw [← ints_snoc] at hr5
                refine RL.nil ?_
                exact ⟨rfl, ⟨_, rfl, trivial⟩, .inr (.inr (.inl ⟨e7, rfl, e11, trivial, bb5, A5, cp5, Lr5, hr5, ⟨rfl, rfl, trivial⟩, (by classical exact List.perm_iff_count.2 (fun z => by simp only [List.count_append, List.count_cons, List.count_nil, List.cons_append, List.nil_append, List.append_nil, List.set_cons_zero, List.set_cons_succ] <;> omega))⟩))⟩
              · exact hS.me e8
              · exact hS.hi 11 rfl (by kernel_rfl) e11
            · intro ρ L D hS
              rcases hS.sp with ⟨e7, e8, e11, -, hρ, hL⟩ | ⟨e7, e8, e11, -, bb5, hρ, hL⟩ | ⟨e7, e8, e11, -, bb5, A5, cp5, Lr5, hp0, hρ, hL⟩ | ⟨e7, e8, e11, -, bb5, A5, cp5, Lr5, hp0, hρ, hL⟩
              · exact hS.lo 7 (by kernel_rfl) e7
              · exact hS.lo 8 (by kernel_rfl) e8
              · have u66 : ρ 66 = .pointer (some ⟨fb, 0, none⟩) := hS.dep ⟨0, Ground.data⟩ (by simp) rfl _ _ rfl rfl
                have u73 : ρ 73 = .slice (some ⟨bb5, 0, none⟩) 1 1 := hρ.1
                have u74 : ρ 74 = .slice A5 (t.st ++ [x.a]).length cp5 := hρ.2.1
                clear hS hρ
                obtain ⟨base, rfl⟩ := Has.base (ρ := ρ) (l := [(66, .pointer (some ⟨fb, 0, none⟩)), (73, .slice (some ⟨bb5, 0, none⟩) 1 1), (74, .slice A5 (t.st ++ [x.a]).length cp5)]) ⟨u66, u73, u74, trivial⟩
                clear u66 u73 u74
                refine RL.perm (L' := ((Lr5) ++ (([(fb, cel 46 [.slice A l.length c, .int .i64 arg, .int .i64 ((t.pc : Int) + 1), .slice A4 t.st.length cp4, .bool false, .bool false])]) ++ (([(b6, cel 30 (⟨0, 0, 0, 0, 0⟩ : Ev).cells)]) ++ (([(b8, cel 27 x.cells)]) ++ ([(bb5, cel 2 [.int .i64 x.a])])))))) rfl hL.symm ?_
                clear hL
                refine RL.nilCheck rfl rfl ?_
                refine RL.nil ?_
                exact ⟨rfl, ⟨_, rfl, rfl⟩, .inr (.inr (.inl ⟨e7, e8, e11, trivial, bb5, A5, cp5, Lr5, hp0, ⟨rfl, rfl, trivial⟩, List.Perm.refl _⟩))⟩
              · exact hS.hi 11 rfl (by kernel_rfl) e11
            · intro ρ L D hS
              rcases hS.sp with ⟨e7, e8, e11, -, hρ, hL⟩ | ⟨e7, e8, e11, -, bb5, hρ, hL⟩ | ⟨e7, e8, e11, -, bb5, A5, cp5, Lr5, hp0, hρ, hL⟩ | ⟨e7, e8, e11, -, bb5, A5, cp5, Lr5, hp0, hρ, hL⟩
              · exact hS.lo 7 (by kernel_rfl) e7
              · exact hS.lo 8 (by kernel_rfl) e8
              · have u73 : ρ 73 = .slice (some ⟨bb5, 0, none⟩) 1 1 := hρ.1
                have u74 : ρ 74 = .slice A5 (t.st ++ [x.a]).length cp5 := hρ.2.1
                have u75 : ρ 75 = .pointer (some ⟨fb, 0, none⟩) := hS.dep ⟨9, Ground.data⟩ (by simp) rfl _ _ rfl rfl
                clear hS hρ
                obtain ⟨base, rfl⟩ := Has.base (ρ := ρ) (l := [(73, .slice (some ⟨bb5, 0, none⟩) 1 1), (74, .slice A5 (t.st ++ [x.a]).length cp5), (75, .pointer (some ⟨fb, 0, none⟩))]) ⟨u73, u74, u75, trivial⟩
                clear u73 u74 u75
                refine RL.perm (L' := ((Lr5) ++ (([(fb, cel 46 [.slice A l.length c, .int .i64 arg, .int .i64 ((t.pc : Int) + 1), .slice A4 t.st.length cp4, .bool false, .bool false])]) ++ (([(b6, cel 30 (⟨0, 0, 0, 0, 0⟩ : Ev).cells)]) ++ (([(b8, cel 27 x.cells)]) ++ ([(bb5, cel 2 [.int .i64 x.a])])))))) rfl hL.symm ?_
                clear hL
                refine RL.fieldAddr rfl fd46_3 rfl ?_
                refine RL.nil ?_
                exact ⟨rfl, ⟨_, rfl, rfl⟩, .inr (.inr (.inl ⟨e7, e8, e11, trivial, bb5, A5, cp5, Lr5, hp0, ⟨rfl, rfl, trivial⟩, List.Perm.refl _⟩))⟩
              · exact hS.hi 11 rfl (by kernel_rfl) e11
            · intro ρ L D hS
              rcases hS.sp with ⟨e7, e8, e11, -, hρ, hL⟩ | ⟨e7, e8, e11, -, bb5, hρ, hL⟩ | ⟨e7, e8, e11, -, bb5, A5, cp5, Lr5, hp0, hρ, hL⟩ | ⟨e7, e8, e11, -, bb5, A5, cp5, Lr5, hp0, hρ, hL⟩
              · exact hS.lo 7 (by kernel_rfl) e7
              · exact hS.lo 8 (by kernel_rfl) e8
              · have u73 : ρ 73 = .slice (some ⟨bb5, 0, none⟩) 1 1 := hρ.1
                have u74 : ρ 74 = .slice A5 (t.st ++ [x.a]).length cp5 := hρ.2.1
                have u76 : ρ 76 = .pointer (some ⟨fb, 0 + 3, none⟩) := hS.dep ⟨10, Ground.data⟩ (by simp) rfl _ _ rfl rfl
                clear hS hρ
                obtain ⟨base, rfl⟩ := Has.base (ρ := ρ) (l := [(73, .slice (some ⟨bb5, 0, none⟩) 1 1), (74, .slice A5 (t.st ++ [x.a]).length cp5), (76, .pointer (some ⟨fb, 0 + 3, none⟩))]) ⟨u73, u74, u76, trivial⟩
                clear u73 u74 u76
                refine RL.perm (L' := ((Lr5) ++ (([(fb, cel 46 [.slice A l.length c, .int .i64 arg, .int .i64 ((t.pc : Int) + 1), .slice A4 t.st.length cp4, .bool false, .bool false])]) ++ (([(b6, cel 30 (⟨0, 0, 0, 0, 0⟩ : Ev).cells)]) ++ (([(b8, cel 27 x.cells)]) ++ ([(bb5, cel 2 [.int .i64 x.a])])))))) rfl hL.symm ?_
                clear hL
                refine RL.stS rfl rfl sc35.size rfl rfl (by simp) ?_
                refine RL.nil ?_
                exact ⟨rfl, ⟨_, rfl, trivial⟩, .inr (.inr (.inr (⟨e7, e8, rfl, trivial, bb5, A5, cp5, Lr5, hp0, ⟨rfl, rfl, trivial⟩, (by classical exact List.perm_iff_count.2 (fun z => by simp only [List.count_append, List.count_cons, List.count_nil, List.cons_append, List.nil_append, List.append_nil, List.set_cons_zero, List.set_cons_succ] <;> omega))⟩)))⟩
              · exact hS.me e11
            · intro ρ L D hD hT hfix hsp
              rcases hsp with ⟨e7, e8, e11, -, hρ, hL⟩ | ⟨e7, e8, e11, -, bb5, hρ, hL⟩ | ⟨e7, e8, e11, -, bb5, A5, cp5, Lr5, hp0, hρ, hL⟩ | ⟨e7, e8, e11, -, bb5, A5, cp5, Lr5, hp0, hρ, hL⟩
              · exact done_no hD 7 rfl e7
              · exact done_no hD 8 rfl e8
              · exact done_no hD 11 rfl e11
              · have u0 : ρ 0 = .pointer (some ⟨fb, 0, none⟩) := hfix 0 (by decide)
                have u2 : ρ 2 = .int .i64 u := hfix 2 (by decide)
                have u6 : ρ 6 = .pointer (some ⟨b6, 0, none⟩) := hfix 6 (by decide)
                have u8 : ρ 8 = .pointer (some ⟨b8, 0, none⟩) := hfix 8 (by decide)
                have u73 : ρ 73 = .slice (some ⟨bb5, 0, none⟩) 1 1 := hρ.1
                have u74 : ρ 74 = .slice A5 (t.st ++ [x.a]).length cp5 := hρ.2.1
                clear hT hfix hD hρ
                obtain ⟨base, rfl⟩ := Has.base (ρ := ρ) (l := [(0, .pointer (some ⟨fb, 0, none⟩)), (2, .int .i64 u), (6, .pointer (some ⟨b6, 0, none⟩)), (8, .pointer (some ⟨b8, 0, none⟩)), (73, .slice (some ⟨bb5, 0, none⟩) 1 1), (74, .slice A5 (t.st ++ [x.a]).length cp5)]) ⟨u0, u2, u6, u8, u73, u74, trivial⟩
                clear u0 u2 u6 u8 u73 u74
                refine ⟨_, hL.symm, ((Lr5) ++ (([(fb, cel 46 [.slice A l.length c, .int .i64 arg, .int .i64 ((t.pc : Int) + 1), .slice A5 (t.st ++ [x.a]).length cp5, .bool false, .bool false])]) ++ (([(b6, cel 30 (⟨0, 0, 0, 0, 0⟩ : Ev).cells)]) ++ ([(b8, cel 27 x.cells)])))), List.Sublist.append (List.Sublist.refl _) (List.Sublist.append (List.Sublist.refl _) (List.Sublist.append (List.Sublist.refl _) (List.sublist_append_left _ _))), ?_⟩
                have hr5 := hp0
                refine X.blk ?_
                refine X.blk ?_
                have hn := hwk2.next hv hx hst
                have hrn := runN_go (n := m) hx.ins hst
                rw [hrun] at hrn
                refine X.hyp ⟨rfl, m, by omega, _, (List.Sublist.append (List.Sublist.refl _) (.cons_cons _ (.cons_cons _ (List.nil_sublist _)))), u, ⟨t.pc + 1, t.st ++ [x.a], false, false⟩, A5, cp5, Lr5, (by have := hn.2; dsimp only at this ⊢; omega), hn.1, hrn.symm, hr5, ⟨rfl, rfl, rfl, trivial⟩, rfl⟩
          · replace hk1 : ¬ ((_ : Int) = _) := hk1
            refine RL.assign rfl ?_
            refine RL.nil ?_
            refine X.cond_f rfl ?_
            refine X.seq ?_
            refine X.region rfl ?_
            refine RL.cmp_s rfl rfl rfl rfl (fun hk2 => ?_) (fun hk2 => ?_)
            · replace hk2 : (_ : Int) = _ := hk2
              have hst : stepI x arg u t = .go u ⟨t.pc + 1, t.st ++ [arg], false, false⟩ := by unfold stepI; simp [hk2]
              refine RL.assign rfl ?_
              refine RL.nil ?_
              refine X.cond_t rfl ?_
              refine X.set [.val (.pointer (some ⟨fb, 0, none⟩)), .val (.pointer (some ⟨fb, 0, none⟩)), .val (.pointer (some ⟨fb, 0, none⟩)), .val (.pointer (some ⟨fb, 0 + 3, none⟩)), .val (.slice A4 t.st.length cp4), .val (.pointer (some ⟨fb, 0, none⟩)), .val (.pointer (some ⟨fb, 0, none⟩)), .val (.pointer (some ⟨fb, 0 + 1, none⟩)), .val (.int .i64 arg), .any, .any, .val (.pointer (some ⟨fb, 0, none⟩)), .val (.pointer (some ⟨fb, 0 + 3, none⟩)), .any] [[], [], [1], [1, 2], [1, 2, 3], [], [5], [5, 6], [5, 6, 7], [5, 6, 7, 8], [1, 2, 3, 4, 5, 6, 7, 8, 9], [0, 1, 2, 3, 4, 5, 6, 7, 8, 9, 10], [0, 1, 2, 3, 4, 5, 6, 7, 8, 9, 10, 11], [0, 1, 2, 3, 4, 5, 6, 7, 8, 9, 10, 11, 12]] (fun D ρ L => (D 9 = false ∧ D 10 = false ∧ D 13 = false ∧ True ∧ Has ρ [] ∧ L.Perm ((Lr4) ++ (([(fb, cel 46 [.slice A l.length c, .int .i64 arg, .int .i64 ((t.pc : Int) + 1), .slice A4 t.st.length cp4, .bool false, .bool false])]) ++ (([(b6, cel 30 (⟨0, 0, 0, 0, 0⟩ : Ev).cells)]) ++ ([(b8, cel 27 x.cells)]))))) ∨ (D 9 = true ∧ D 10 = false ∧ D 13 = false ∧ True ∧ ∃ bb5 : Nat, Has ρ [(88, .slice (some ⟨bb5, 0, none⟩) 1 1)] ∧ L.Perm ((Lr4) ++ (([(fb, cel 46 [.slice A l.length c, .int .i64 arg, .int .i64 ((t.pc : Int) + 1), .slice A4 t.st.length cp4, .bool false, .bool false])]) ++ (([(b6, cel 30 (⟨0, 0, 0, 0, 0⟩ : Ev).cells)]) ++ (([(b8, cel 27 x.cells)]) ++ ([(bb5, cel 2 [.int .i64 arg])])))))) ∨ (D 9 = true ∧ D 10 = true ∧ D 13 = false ∧ True ∧ ∃ bb5 : Nat, ∃ A5 : Option Addr, ∃ cp5 : Nat, ∃ Lr5 : List Ent, (Row 2 1 (.slice A5 (t.st ++ [arg]).length cp5) (ints (t.st ++ [arg])) Lr5) ∧ Has ρ [(88, .slice (some ⟨bb5, 0, none⟩) 1 1), (89, .slice A5 (t.st ++ [arg]).length cp5)] ∧ L.Perm ((Lr5) ++ (([(fb, cel 46 [.slice A l.length c, .int .i64 arg, .int .i64 ((t.pc : Int) + 1), .slice A4 t.st.length cp4, .bool false, .bool false])]) ++ (([(b6, cel 30 (⟨0, 0, 0, 0, 0⟩ : Ev).cells)]) ++ (([(b8, cel 27 x.cells)]) ++ ([(bb5, cel 2 [.int .i64 arg])])))))) ∨ (D 9 = true ∧ D 10 = true ∧ D 13 = true ∧ True ∧ ∃ bb5 : Nat, ∃ A5 : Option Addr, ∃ cp5 : Nat, ∃ Lr5 : List Ent, (Row 2 1 (.slice A5 (t.st ++ [arg]).length cp5) (ints (t.st ++ [arg])) Lr5) ∧ Has ρ [(88, .slice (some ⟨bb5, 0, none⟩) 1 1), (89, .slice A5 (t.st ++ [arg]).length cp5)] ∧ L.Perm ((Lr5) ++ (([(fb, cel 46 [.slice A l.length c, .int .i64 arg, .int .i64 ((t.pc : Int) + 1), .slice A5 (t.st ++ [arg]).length cp5, .bool false, .bool false])]) ++ (([(b6, cel 30 (⟨0, 0, 0, 0, 0⟩ : Ev).cells)]) ++ (([(b8, cel 27 x.cells)]) ++ ([(bb5, cel 2 [.int .i64 arg])]))))))) rfl (by kernel_rfl) (by kernel_rfl) (by kernel_rfl) (by kernel_rfl) (fun D hD => .inl ⟨hD 9, hD 10, hD 13, trivial, trivial, (List.Perm.refl _)⟩) ⟨?_, ?_, ?_, ?_, ?_, ?_, ?_, ?_, ?_, ?_, ?_, ?_, ?_, ?_, trivial⟩ ?_
              · intro ρ L D hS
                rcases hS.sp with ⟨e9, e10, e13, -, hρ, hL⟩ | ⟨e9, e10, e13, -, bb5, hρ, hL⟩ | ⟨e9, e10, e13, -, bb5, A5, cp5, Lr5, hp0, hρ, hL⟩ | ⟨e9, e10, e13, -, bb5, A5, cp5, Lr5, hp0, hρ, hL⟩
                · have u0 : ρ 0 = .pointer (some ⟨fb, 0, none⟩) := hS.fix 0 (by decide)
                  clear hS hρ
                  obtain ⟨base, rfl⟩ := Has.base (ρ := ρ) (l := [(0, .pointer (some ⟨fb, 0, none⟩))]) ⟨u0, trivial⟩
                  clear u0
                  refine RL.perm (L' := ((Lr4) ++ (([(fb, cel 46 [.slice A l.length c, .int .i64 arg, .int .i64 ((t.pc : Int) + 1), .slice A4 t.st.length cp4, .bool false, .bool false])]) ++ (([(b6, cel 30 (⟨0, 0, 0, 0, 0⟩ : Ev).cells)]) ++ ([(b8, cel 27 x.cells)]))))) rfl hL.symm ?_
                  clear hL
                  refine RL.move rfl ?_
                  refine RL.nil ?_
                  exact ⟨rfl, ⟨_, rfl, rfl⟩, .inl ⟨e9, e10, e13, trivial, trivial, List.Perm.refl _⟩⟩
                · have u0 : ρ 0 = .pointer (some ⟨fb, 0, none⟩) := hS.fix 0 (by decide)
                  have u88 : ρ 88 = .slice (some ⟨bb5, 0, none⟩) 1 1 := hρ.1
                  clear hS hρ
                  obtain ⟨base, rfl⟩ := Has.base (ρ := ρ) (l := [(0, .pointer (some ⟨fb, 0, none⟩)), (88, .slice (some ⟨bb5, 0, none⟩) 1 1)]) ⟨u0, u88, trivial⟩
                  clear u0 u88
                  refine RL.perm (L' := ((Lr4) ++ (([(fb, cel 46 [.slice A l.length c, .int .i64 arg, .int .i64 ((t.pc : Int) + 1), .slice A4 t.st.length cp4, .bool false, .bool false])]) ++ (([(b6, cel 30 (⟨0, 0, 0, 0, 0⟩ : Ev).cells)]) ++ (([(b8, cel 27 x.cells)]) ++ ([(bb5, cel 2 [.int .i64 arg])])))))) rfl hL.symm ?_
                  clear hL
                  refine RL.move rfl ?_
                  refine RL.nil ?_
                  exact ⟨rfl, ⟨_, rfl, rfl⟩, .inr (.inl ⟨e9, e10, e13, trivial, bb5, ⟨rfl, trivial⟩, List.Perm.refl _⟩)⟩
                · have u0 : ρ 0 = .pointer (some ⟨fb, 0, none⟩) := hS.fix 0 (by decide)
                  have u88 : ρ 88 = .slice (some ⟨bb5, 0, none⟩) 1 1 := hρ.1
                  have u89 : ρ 89 = .slice A5 (t.st ++ [arg]).length cp5 := hρ.2.1
                  clear hS hρ
                  obtain ⟨base, rfl⟩ := Has.base (ρ := ρ) (l := [(0, .pointer (some ⟨fb, 0, none⟩)), (88, .slice (some ⟨bb5, 0, none⟩) 1 1), (89, .slice A5 (t.st ++ [arg]).length cp5)]) ⟨u0, u88, u89, trivial⟩
                  clear u0 u88 u89
                  refine RL.perm (L' := ((Lr5) ++ (([(fb, cel 46 [.slice A l.length c, .int .i64 arg, .int .i64 ((t.pc : Int) + 1), .slice A4 t.st.length cp4, .bool false, .bool false])]) ++ (([(b6, cel 30 (⟨0, 0, 0, 0, 0⟩ : Ev).cells)]) ++ (([(b8, cel 27 x.cells)]) ++ ([(bb5, cel 2 [.int .i64 arg])])))))) rfl hL.symm ?_
                  clear hL
                  refine RL.move rfl ?_
                  refine RL.nil ?_
                  exact ⟨rfl, ⟨_, rfl, rfl⟩, .inr (.inr (.inl ⟨e9, e10, e13, trivial, bb5, A5, cp5, Lr5, hp0, ⟨rfl, rfl, trivial⟩, List.Perm.refl _⟩))⟩
                · exact hS.hi 13 rfl (by kernel_rfl) e13
              · intro ρ L D hS
                rcases hS.sp with ⟨e9, e10, e13, -, hρ, hL⟩ | ⟨e9, e10, e13, -, bb5, hρ, hL⟩ | ⟨e9, e10, e13, -, bb5, A5, cp5, Lr5, hp0, hρ, hL⟩ | ⟨e9, e10, e13, -, bb5, A5, cp5, Lr5, hp0, hρ, hL⟩
                · have u0 : ρ 0 = .pointer (some ⟨fb, 0, none⟩) := hS.fix 0 (by decide)
                  clear hS hρ
                  obtain ⟨base, rfl⟩ := Has.base (ρ := ρ) (l := [(0, .pointer (some ⟨fb, 0, none⟩))]) ⟨u0, trivial⟩
                  clear u0
                  refine RL.perm (L' := ((Lr4) ++ (([(fb, cel 46 [.slice A l.length c, .int .i64 arg, .int .i64 ((t.pc : Int) + 1), .slice A4 t.st.length cp4, .bool false, .bool false])]) ++ (([(b6, cel 30 (⟨0, 0, 0, 0, 0⟩ : Ev).cells)]) ++ ([(b8, cel 27 x.cells)]))))) rfl hL.symm ?_
                  clear hL
                  refine RL.move rfl ?_
                  refine RL.nil ?_
                  exact ⟨rfl, ⟨_, rfl, rfl⟩, .inl ⟨e9, e10, e13, trivial, trivial, List.Perm.refl _⟩⟩
                · have u0 : ρ 0 = .pointer (some ⟨fb, 0, none⟩) := hS.fix 0 (by decide)
                  have u88 : ρ 88 = .slice (some ⟨bb5, 0, none⟩) 1 1 := hρ.1
                  clear hS hρ
                  obtain ⟨base, rfl⟩ := Has.base (ρ := ρ) (l := [(0, .pointer (some ⟨fb, 0, none⟩)), (88, .slice (some ⟨bb5, 0, none⟩) 1 1)]) ⟨u0, u88, trivial⟩
                  clear u0 u88
                  refine RL.perm (L' := ((Lr4) ++ (([(fb, cel 46 [.slice A l.length c, .int .i64 arg, .int .i64 ((t.pc : Int) + 1), .slice A4 t.st.length cp4, .bool false, .bool false])]) ++ (([(b6, cel 30 (⟨0, 0, 0, 0, 0⟩ : Ev).cells)]) ++ (([(b8, cel 27 x.cells)]) ++ ([(bb5, cel 2 [.int .i64 arg])])))))) rfl hL.symm ?_
                  clear hL
                  refine RL.move rfl ?_
                  refine RL.nil ?_
                  exact ⟨rfl, ⟨_, rfl, rfl⟩, .inr (.inl ⟨e9, e10, e13, trivial, bb5, ⟨rfl, trivial⟩, List.Perm.refl _⟩)⟩
                · exact hS.hi 10 rfl (by kernel_rfl) e10
                · exact hS.hi 10 rfl (by kernel_rfl) e10
              · intro ρ L D hS
                rcases hS.sp with ⟨e9, e10, e13, -, hρ, hL⟩ | ⟨e9, e10, e13, -, bb5, hρ, hL⟩ | ⟨e9, e10, e13, -, bb5, A5, cp5, Lr5, hp0, hρ, hL⟩ | ⟨e9, e10, e13, -, bb5, A5, cp5, Lr5, hp0, hρ, hL⟩
                · have u80 : ρ 80 = .pointer (some ⟨fb, 0, none⟩) := hS.dep ⟨1, Ground.data⟩ (by simp) rfl _ _ rfl rfl
                  clear hS hρ
                  obtain ⟨base, rfl⟩ := Has.base (ρ := ρ) (l := [(80, .pointer (some ⟨fb, 0, none⟩))]) ⟨u80, trivial⟩
                  clear u80
                  refine RL.perm (L' := ((Lr4) ++ (([(fb, cel 46 [.slice A l.length c, .int .i64 arg, .int .i64 ((t.pc : Int) + 1), .slice A4 t.st.length cp4, .bool false, .bool false])]) ++ (([(b6, cel 30 (⟨0, 0, 0, 0, 0⟩ : Ev).cells)]) ++ ([(b8, cel 27 x.cells)]))))) rfl hL.symm ?_
                  clear hL
                  refine RL.nilCheck rfl rfl ?_
                  refine RL.nil ?_
                  exact ⟨rfl, ⟨_, rfl, rfl⟩, .inl ⟨e9, e10, e13, trivial, trivial, List.Perm.refl _⟩⟩
                · have u80 : ρ 80 = .pointer (some ⟨fb, 0, none⟩) := hS.dep ⟨1, Ground.data⟩ (by simp) rfl _ _ rfl rfl
                  have u88 : ρ 88 = .slice (some ⟨bb5, 0, none⟩) 1 1 := hρ.1
                  clear hS hρ
                  obtain ⟨base, rfl⟩ := Has.base (ρ := ρ) (l := [(80, .pointer (some ⟨fb, 0, none⟩)), (88, .slice (some ⟨bb5, 0, none⟩) 1 1)]) ⟨u80, u88, trivial⟩
                  clear u80 u88
                  refine RL.perm (L' := ((Lr4) ++ (([(fb, cel 46 [.slice A l.length c, .int .i64 arg, .int .i64 ((t.pc : Int) + 1), .slice A4 t.st.length cp4, .bool false, .bool false])]) ++ (([(b6, cel 30 (⟨0, 0, 0, 0, 0⟩ : Ev).cells)]) ++ (([(b8, cel 27 x.cells)]) ++ ([(bb5, cel 2 [.int .i64 arg])])))))) rfl hL.symm ?_
                  clear hL
                  refine RL.nilCheck rfl rfl ?_
                  refine RL.nil ?_
                  exact ⟨rfl, ⟨_, rfl, rfl⟩, .inr (.inl ⟨e9, e10, e13, trivial, bb5, ⟨rfl, trivial⟩, List.Perm.refl _⟩)⟩
                · exact hS.hi 10 rfl (by kernel_rfl) e10
                · exact hS.hi 10 rfl (by kernel_rfl) e10
              · intro ρ L D hS
                rcases hS.sp with ⟨e9, e10, e13, -, hρ, hL⟩ | ⟨e9, e10, e13, -, bb5, hρ, hL⟩ | ⟨e9, e10, e13, -, bb5, A5, cp5, Lr5, hp0, hρ, hL⟩ | ⟨e9, e10, e13, -, bb5, A5, cp5, Lr5, hp0, hρ, hL⟩
                · have u81 : ρ 81 = .pointer (some ⟨fb, 0, none⟩) := hS.dep ⟨2, Ground.data⟩ (by simp) rfl _ _ rfl rfl
                  clear hS hρ
                  obtain ⟨base, rfl⟩ := Has.base (ρ := ρ) (l := [(81, .pointer (some ⟨fb, 0, none⟩))]) ⟨u81, trivial⟩
                  clear u81
                  refine RL.perm (L' := ((Lr4) ++ (([(fb, cel 46 [.slice A l.length c, .int .i64 arg, .int .i64 ((t.pc : Int) + 1), .slice A4 t.st.length cp4, .bool false, .bool false])]) ++ (([(b6, cel 30 (⟨0, 0, 0, 0, 0⟩ : Ev).cells)]) ++ ([(b8, cel 27 x.cells)]))))) rfl hL.symm ?_
                  clear hL
                  refine RL.fieldAddr rfl fd46_3 rfl ?_
                  refine RL.nil ?_
                  exact ⟨rfl, ⟨_, rfl, rfl⟩, .inl ⟨e9, e10, e13, trivial, trivial, List.Perm.refl _⟩⟩
                · have u81 : ρ 81 = .pointer (some ⟨fb, 0, none⟩) := hS.dep ⟨2, Ground.data⟩ (by simp) rfl _ _ rfl rfl
                  have u88 : ρ 88 = .slice (some ⟨bb5, 0, none⟩) 1 1 := hρ.1
                  clear hS hρ
                  obtain ⟨base, rfl⟩ := Has.base (ρ := ρ) (l := [(81, .pointer (some ⟨fb, 0, none⟩)), (88, .slice (some ⟨bb5, 0, none⟩) 1 1)]) ⟨u81, u88, trivial⟩
                  clear u81 u88
                  refine RL.perm (L' := ((Lr4) ++ (([(fb, cel 46 [.slice A l.length c, .int .i64 arg, .int .i64 ((t.pc : Int) + 1), .slice A4 t.st.length cp4, .bool false, .bool false])]) ++ (([(b6, cel 30 (⟨0, 0, 0, 0, 0⟩ : Ev).cells)]) ++ (([(b8, cel 27 x.cells)]) ++ ([(bb5, cel 2 [.int .i64 arg])])))))) rfl hL.symm ?_
                  clear hL
                  refine RL.fieldAddr rfl fd46_3 rfl ?_
                  refine RL.nil ?_
                  exact ⟨rfl, ⟨_, rfl, rfl⟩, .inr (.inl ⟨e9, e10, e13, trivial, bb5, ⟨rfl, trivial⟩, List.Perm.refl _⟩)⟩
                · exact hS.hi 10 rfl (by kernel_rfl) e10
                · exact hS.hi 10 rfl (by kernel_rfl) e10
              · intro ρ L D hS
                rcases hS.sp with ⟨e9, e10, e13, -, hρ, hL⟩ | ⟨e9, e10, e13, -, bb5, hρ, hL⟩ | ⟨e9, e10, e13, -, bb5, A5, cp5, Lr5, hp0, hρ, hL⟩ | ⟨e9, e10, e13, -, bb5, A5, cp5, Lr5, hp0, hρ, hL⟩
                · have u82 : ρ 82 = .pointer (some ⟨fb, 0 + 3, none⟩) := hS.dep ⟨3, Ground.data⟩ (by simp) rfl _ _ rfl rfl
                  clear hS hρ
                  obtain ⟨base, rfl⟩ := Has.base (ρ := ρ) (l := [(82, .pointer (some ⟨fb, 0 + 3, none⟩))]) ⟨u82, trivial⟩
                  clear u82
                  refine RL.perm (L' := ((Lr4) ++ (([(fb, cel 46 [.slice A l.length c, .int .i64 arg, .int .i64 ((t.pc : Int) + 1), .slice A4 t.st.length cp4, .bool false, .bool false])]) ++ (([(b6, cel 30 (⟨0, 0, 0, 0, 0⟩ : Ev).cells)]) ++ ([(b8, cel 27 x.cells)]))))) rfl hL.symm ?_
                  clear hL
                  refine RL.loadO rfl sc35 rfl rfl ?_
                  refine RL.nil ?_
                  exact ⟨rfl, ⟨_, rfl, rfl⟩, .inl ⟨e9, e10, e13, trivial, trivial, List.Perm.refl _⟩⟩
                · have u82 : ρ 82 = .pointer (some ⟨fb, 0 + 3, none⟩) := hS.dep ⟨3, Ground.data⟩ (by simp) rfl _ _ rfl rfl
                  have u88 : ρ 88 = .slice (some ⟨bb5, 0, none⟩) 1 1 := hρ.1
                  clear hS hρ
                  obtain ⟨base, rfl⟩ := Has.base (ρ := ρ) (l := [(82, .pointer (some ⟨fb, 0 + 3, none⟩)), (88, .slice (some ⟨bb5, 0, none⟩) 1 1)]) ⟨u82, u88, trivial⟩
                  clear u82 u88
                  refine RL.perm (L' := ((Lr4) ++ (([(fb, cel 46 [.slice A l.length c, .int .i64 arg, .int .i64 ((t.pc : Int) + 1), .slice A4 t.st.length cp4, .bool false, .bool false])]) ++ (([(b6, cel 30 (⟨0, 0, 0, 0, 0⟩ : Ev).cells)]) ++ (([(b8, cel 27 x.cells)]) ++ ([(bb5, cel 2 [.int .i64 arg])])))))) rfl hL.symm ?_
                  clear hL
                  refine RL.loadO rfl sc35 rfl rfl ?_
                  refine RL.nil ?_
                  exact ⟨rfl, ⟨_, rfl, rfl⟩, .inr (.inl ⟨e9, e10, e13, trivial, bb5, ⟨rfl, trivial⟩, List.Perm.refl _⟩)⟩
                · exact hS.hi 10 rfl (by kernel_rfl) e10
                · exact hS.hi 10 rfl (by kernel_rfl) e10
              · intro ρ L D hS
                rcases hS.sp with ⟨e9, e10, e13, -, hρ, hL⟩ | ⟨e9, e10, e13, -, bb5, hρ, hL⟩ | ⟨e9, e10, e13, -, bb5, A5, cp5, Lr5, hp0, hρ, hL⟩ | ⟨e9, e10, e13, -, bb5, A5, cp5, Lr5, hp0, hρ, hL⟩
                · have u0 : ρ 0 = .pointer (some ⟨fb, 0, none⟩) := hS.fix 0 (by decide)
                  clear hS hρ
                  obtain ⟨base, rfl⟩ := Has.base (ρ := ρ) (l := [(0, .pointer (some ⟨fb, 0, none⟩))]) ⟨u0, trivial⟩
                  clear u0
                  refine RL.perm (L' := ((Lr4) ++ (([(fb, cel 46 [.slice A l.length c, .int .i64 arg, .int .i64 ((t.pc : Int) + 1), .slice A4 t.st.length cp4, .bool false, .bool false])]) ++ (([(b6, cel 30 (⟨0, 0, 0, 0, 0⟩ : Ev).cells)]) ++ ([(b8, cel 27 x.cells)]))))) rfl hL.symm ?_
                  clear hL
                  refine RL.move rfl ?_
                  refine RL.nil ?_
                  exact ⟨rfl, ⟨_, rfl, rfl⟩, .inl ⟨e9, e10, e13, trivial, trivial, List.Perm.refl _⟩⟩
                · exact hS.hi 9 rfl (by kernel_rfl) e9
                · exact hS.hi 9 rfl (by kernel_rfl) e9
                · exact hS.hi 9 rfl (by kernel_rfl) e9
              · intro ρ L D hS
                rcases hS.sp with ⟨e9, e10, e13, -, hρ, hL⟩ | ⟨e9, e10, e13, -, bb5, hρ, hL⟩ | ⟨e9, e10, e13, -, bb5, A5, cp5, Lr5, hp0, hρ, hL⟩ | ⟨e9, e10, e13, -, bb5, A5, cp5, Lr5, hp0, hρ, hL⟩
                · have u84 : ρ 84 = .pointer (some ⟨fb, 0, none⟩) := hS.dep ⟨5, Ground.data⟩ (by simp) rfl _ _ rfl rfl
                  clear hS hρ
                  obtain ⟨base, rfl⟩ := Has.base (ρ := ρ) (l := [(84, .pointer (some ⟨fb, 0, none⟩))]) ⟨u84, trivial⟩
                  clear u84
                  refine RL.perm (L' := ((Lr4) ++ (([(fb, cel 46 [.slice A l.length c, .int .i64 arg, .int .i64 ((t.pc : Int) + 1), .slice A4 t.st.length cp4, .bool false, .bool false])]) ++ (([(b6, cel 30 (⟨0, 0, 0, 0, 0⟩ : Ev).cells)]) ++ ([(b8, cel 27 x.cells)]))))) rfl hL.symm ?_
                  clear hL
                  refine RL.nilCheck rfl rfl ?_
                  refine RL.nil ?_
                  exact ⟨rfl, ⟨_, rfl, rfl⟩, .inl ⟨e9, e10, e13, trivial, trivial, List.Perm.refl _⟩⟩
                · exact hS.hi 9 rfl (by kernel_rfl) e9
                · exact hS.hi 9 rfl (by kernel_rfl) e9
                · exact hS.hi 9 rfl (by kernel_rfl) e9
              · intro ρ L D hS
                rcases hS.sp with ⟨e9, e10, e13, -, hρ, hL⟩ | ⟨e9, e10, e13, -, bb5, hρ, hL⟩ | ⟨e9, e10, e13, -, bb5, A5, cp5, Lr5, hp0, hρ, hL⟩ | ⟨e9, e10, e13, -, bb5, A5, cp5, Lr5, hp0, hρ, hL⟩
                · have u85 : ρ 85 = .pointer (some ⟨fb, 0, none⟩) := hS.dep ⟨6, Ground.data⟩ (by simp) rfl _ _ rfl rfl
                  clear hS hρ
                  obtain ⟨base, rfl⟩ := Has.base (ρ := ρ) (l := [(85, .pointer (some ⟨fb, 0, none⟩))]) ⟨u85, trivial⟩
                  clear u85
                  refine RL.perm (L' := ((Lr4) ++ (([(fb, cel 46 [.slice A l.length c, .int .i64 arg, .int .i64 ((t.pc : Int) + 1), .slice A4 t.st.length cp4, .bool false, .bool false])]) ++ (([(b6, cel 30 (⟨0, 0, 0, 0, 0⟩ : Ev).cells)]) ++ ([(b8, cel 27 x.cells)]))))) rfl hL.symm ?_
                  clear hL
                  refine RL.fieldAddr rfl fd46_1 rfl ?_
                  refine RL.nil ?_
                  exact ⟨rfl, ⟨_, rfl, rfl⟩, .inl ⟨e9, e10, e13, trivial, trivial, List.Perm.refl _⟩⟩
                · exact hS.hi 9 rfl (by kernel_rfl) e9
                · exact hS.hi 9 rfl (by kernel_rfl) e9
                · exact hS.hi 9 rfl (by kernel_rfl) e9
              · intro ρ L D hS
                rcases hS.sp with ⟨e9, e10, e13, -, hρ, hL⟩ | ⟨e9, e10, e13, -, bb5, hρ, hL⟩ | ⟨e9, e10, e13, -, bb5, A5, cp5, Lr5, hp0, hρ, hL⟩ | ⟨e9, e10, e13, -, bb5, A5, cp5, Lr5, hp0, hρ, hL⟩
                · have u86 : ρ 86 = .pointer (some ⟨fb, 0 + 1, none⟩) := hS.dep ⟨7, Ground.data⟩ (by simp) rfl _ _ rfl rfl
                  clear hS hρ
                  obtain ⟨base, rfl⟩ := Has.base (ρ := ρ) (l := [(86, .pointer (some ⟨fb, 0 + 1, none⟩))]) ⟨u86, trivial⟩
                  clear u86
                  refine RL.perm (L' := ((Lr4) ++ (([(fb, cel 46 [.slice A l.length c, .int .i64 arg, .int .i64 ((t.pc : Int) + 1), .slice A4 t.st.length cp4, .bool false, .bool false])]) ++ (([(b6, cel 30 (⟨0, 0, 0, 0, 0⟩ : Ev).cells)]) ++ ([(b8, cel 27 x.cells)]))))) rfl hL.symm ?_
                  clear hL
                  refine RL.loadO rfl sc2 rfl rfl ?_
                  refine RL.nil ?_
                  exact ⟨rfl, ⟨_, rfl, rfl⟩, .inl ⟨e9, e10, e13, trivial, trivial, List.Perm.refl _⟩⟩
                · exact hS.hi 9 rfl (by kernel_rfl) e9
                · exact hS.hi 9 rfl (by kernel_rfl) e9
                · exact hS.hi 9 rfl (by kernel_rfl) e9
              · intro ρ L D hS
                rcases hS.sp with ⟨e9, e10, e13, -, hρ, hL⟩ | ⟨e9, e10, e13, -, bb5, hρ, hL⟩ | ⟨e9, e10, e13, -, bb5, A5, cp5, Lr5, hp0, hρ, hL⟩ | ⟨e9, e10, e13, -, bb5, A5, cp5, Lr5, hp0, hρ, hL⟩
                · have u87 : ρ 87 = .int .i64 arg := hS.dep ⟨8, Ground.data⟩ (by simp) rfl _ _ rfl rfl
                  clear hS hρ
                  obtain ⟨base, rfl⟩ := Has.base (ρ := ρ) (l := [(87, .int .i64 arg)]) ⟨u87, trivial⟩
                  clear u87
                  refine RL.perm (L' := ((Lr4) ++ (([(fb, cel 46 [.slice A l.length c, .int .i64 arg, .int .i64 ((t.pc : Int) + 1), .slice A4 t.st.length cp4, .bool false, .bool false])]) ++ (([(b6, cel 30 (⟨0, 0, 0, 0, 0⟩ : Ev).cells)]) ++ ([(b8, cel 27 x.cells)]))))) rfl hL.symm ?_
                  clear hL
                  refine RL.bs1I rfl rfl sl35 zt2 rfl ?_
                  intro bb5 hbb5
                  refine RL.nil ?_
                  exact ⟨rfl, ⟨_, rfl, trivial⟩, .inr (.inl ⟨rfl, e10, e13, trivial, bb5, ⟨rfl, trivial⟩, (by classical exact List.perm_iff_count.2 (fun z => by simp only [List.count_append, List.count_cons, List.count_nil, List.cons_append, List.nil_append, List.append_nil, List.set_cons_zero, List.set_cons_succ] <;> omega))⟩)⟩
                · exact hS.me e9
                · exact hS.hi 10 rfl (by kernel_rfl) e10
                · exact hS.hi 10 rfl (by kernel_rfl) e10
              · intro ρ L D hS
                rcases hS.sp with ⟨e9, e10, e13, -, hρ, hL⟩ | ⟨e9, e10, e13, -, bb5, hρ, hL⟩ | ⟨e9, e10, e13, -, bb5, A5, cp5, Lr5, hp0, hρ, hL⟩ | ⟨e9, e10, e13, -, bb5, A5, cp5, Lr5, hp0, hρ, hL⟩
                · exact hS.lo 9 (by kernel_rfl) e9
                · have u83 : ρ 83 = .slice A4 t.st.length cp4 := hS.dep ⟨4, Ground.data⟩ (by simp) rfl _ _ rfl rfl
                  have u88 : ρ 88 = .slice (some ⟨bb5, 0, none⟩) 1 1 := hρ.1
                  clear hS hρ
                  obtain ⟨base, rfl⟩ := Has.base (ρ := ρ) (l := [(83, .slice A4 t.st.length cp4), (88, .slice (some ⟨bb5, 0, none⟩) 1 1)]) ⟨u83, u88, trivial⟩
                  clear u83 u88
                  refine RL.perm (L' := ((Lr4) ++ (([(fb, cel 46 [.slice A l.length c, .int .i64 arg, .int .i64 ((t.pc : Int) + 1), .slice A4 t.st.length cp4, .bool false, .bool false])]) ++ (([(b6, cel 30 (⟨0, 0, 0, 0, 0⟩ : Ev).cells)]) ++ (([(b8, cel 27 x.cells)]) ++ ([(bb5, cel 2 [.int .i64 arg])])))))) rfl hL.symm ?_
                  clear hL
                  refine RL.perm (L' := (bb5, cel 2 [.int .i64 arg]) :: (Lr4 ++ [(fb, cel 46 [.slice A l.length c, .int .i64 arg, .int .i64 ((t.pc : Int) + 1), .slice A4 t.st.length cp4, .bool false, .bool false]), (b6, cel 30 (⟨0, 0, 0, 0, 0⟩ : Ev).cells), (b8, cel 27 x.cells)])) rfl (by classical exact List.perm_iff_count.2 (fun z => by simp only [List.count_append, List.count_cons, List.count_nil, List.cons_append, List.nil_append, List.set_cons_zero, List.set_cons_succ] <;> omega)) ?_
                  refine RL.app1I (Lr := Lr4) (Lz := [(fb, cel 46 [.slice A l.length c, .int .i64 arg, .int .i64 ((t.pc : Int) + 1), .slice A4 t.st.length cp4, .bool false, .bool false]), (b6, cel 30 (⟨0, 0, 0, 0, 0⟩ : Ev).cells), (b8, cel 27 x.cells)]) rfl rfl sl35 el_i64 Try.underlying35 (List.Perm.refl _) rfl rfl hr4 (by rw [ints_length]; omega) (n := (t.st ++ [arg]).length) (by rw [ints_length]; simp) ?_
                  intro A5 cp5 Lr5 hr5
                  rw [← ints_snoc] at hr5
                  refine RL.nil ?_
                  exact ⟨rfl, ⟨_, rfl, trivial⟩, .inr (.inr (.inl ⟨e9, rfl, e13, trivial, bb5, A5, cp5, Lr5, hr5, ⟨rfl, rfl, trivial⟩, (by classical exact List.perm_iff_count.2 (fun z => by simp only [List.count_append, List.count_cons, List.count_nil, List.cons_append, List.nil_append, List.append_nil, List.set_cons_zero, List.set_cons_succ] <;> omega))⟩))⟩
                · exact hS.me e10
                · exact hS.hi 13 rfl (by kernel_rfl) e13
              · intro ρ L D hS
                rcases hS.sp with ⟨e9, e10, e13, -, hρ, hL⟩ | ⟨e9, e10, e13, -, bb5, hρ, hL⟩ | ⟨e9, e10, e13, -, bb5, A5, cp5, Lr5, hp0, hρ, hL⟩ | ⟨e9, e10, e13, -, bb5, A5, cp5, Lr5, hp0, hρ, hL⟩
                · exact hS.lo 9 (by kernel_rfl) e9
                · exact hS.lo 10 (by kernel_rfl) e10
                · have u79 : ρ 79 = .pointer (some ⟨fb, 0, none⟩) := hS.dep ⟨0, Ground.data⟩ (by simp) rfl _ _ rfl rfl
                  have u88 : ρ 88 = .slice (some ⟨bb5, 0, none⟩) 1 1 := hρ.1
                  have u89 : ρ 89 = .slice A5 (t.st ++ [arg]).length cp5 := hρ.2.1
                  clear hS hρ
                  obtain ⟨base, rfl⟩ := Has.base (ρ := ρ) (l := [(79, .pointer (some ⟨fb, 0, none⟩)), (88, .slice (some ⟨bb5, 0, none⟩) 1 1), (89, .slice A5 (t.st ++ [arg]).length cp5)]) ⟨u79, u88, u89, trivial⟩
                  clear u79 u88 u89
                  refine RL.perm (L' := ((Lr5) ++ (([(fb, cel 46 [.slice A l.length c, .int .i64 arg, .int .i64 ((t.pc : Int) + 1), .slice A4 t.st.length cp4, .bool false, .bool false])]) ++ (([(b6, cel 30 (⟨0, 0, 0, 0, 0⟩ : Ev).cells)]) ++ (([(b8, cel 27 x.cells)]) ++ ([(bb5, cel 2 [.int .i64 arg])])))))) rfl hL.symm ?_
                  clear hL
                  refine RL.nilCheck rfl rfl ?_
                  refine RL.nil ?_
                  exact ⟨rfl, ⟨_, rfl, rfl⟩, .inr (.inr (.inl ⟨e9, e10, e13, trivial, bb5, A5, cp5, Lr5, hp0, ⟨rfl, rfl, trivial⟩, List.Perm.refl _⟩))⟩
                · exact hS.hi 13 rfl (by kernel_rfl) e13
              · intro ρ L D hS
                rcases hS.sp with ⟨e9, e10, e13, -, hρ, hL⟩ | ⟨e9, e10, e13, -, bb5, hρ, hL⟩ | ⟨e9, e10, e13, -, bb5, A5, cp5, Lr5, hp0, hρ, hL⟩ | ⟨e9, e10, e13, -, bb5, A5, cp5, Lr5, hp0, hρ, hL⟩
                · exact hS.lo 9 (by kernel_rfl) e9
                · exact hS.lo 10 (by kernel_rfl) e10
                · have u88 : ρ 88 = .slice (some ⟨bb5, 0, none⟩) 1 1 := hρ.1
                  have u89 : ρ 89 = .slice A5 (t.st ++ [arg]).length cp5 := hρ.2.1
                  have u90 : ρ 90 = .pointer (some ⟨fb, 0, none⟩) := hS.dep ⟨11, Ground.data⟩ (by simp) rfl _ _ rfl rfl
                  clear hS hρ
                  obtain ⟨base, rfl⟩ := Has.base (ρ := ρ) (l := [(88, .slice (some ⟨bb5, 0, none⟩) 1 1), (89, .slice A5 (t.st ++ [arg]).length cp5), (90, .pointer (some ⟨fb, 0, none⟩))]) ⟨u88, u89, u90, trivial⟩
                  clear u88 u89 u90
                  refine RL.perm (L' := ((Lr5) ++ (([(fb, cel 46 [.slice A l.length c, .int .i64 arg, .int .i64 ((t.pc : Int) + 1), .slice A4 t.st.length cp4, .bool false, .bool false])]) ++ (([(b6, cel 30 (⟨0, 0, 0, 0, 0⟩ : Ev).cells)]) ++ (([(b8, cel 27 x.cells)]) ++ ([(bb5, cel 2 [.int .i64 arg])])))))) rfl hL.symm ?_
                  clear hL
                  refine RL.fieldAddr rfl fd46_3 rfl ?_
                  refine RL.nil ?_
                  exact ⟨rfl, ⟨_, rfl, rfl⟩, .inr (.inr (.inl ⟨e9, e10, e13, trivial, bb5, A5, cp5, Lr5, hp0, ⟨rfl, rfl, trivial⟩, List.Perm.refl _⟩))⟩
                · exact hS.hi 13 rfl (by kernel_rfl) e13
              · intro ρ L D hS
                rcases hS.sp with ⟨e9, e10, e13, -, hρ, hL⟩ | ⟨e9, e10, e13, -, bb5, hρ, hL⟩ | ⟨e9, e10, e13, -, bb5, A5, cp5, Lr5, hp0, hρ, hL⟩ | ⟨e9, e10, e13, -, bb5, A5, cp5, Lr5, hp0, hρ, hL⟩
                · exact hS.lo 9 (by kernel_rfl) e9
                · exact hS.lo 10 (by kernel_rfl) e10
                · have u88 : ρ 88 = .slice (some ⟨bb5, 0, none⟩) 1 1 := hρ.1
                  have u89 : ρ 89 = .slice A5 (t.st ++ [arg]).length cp5 := hρ.2.1
                  have u91 : ρ 91 = .pointer (some ⟨fb, 0 + 3, none⟩) := hS.dep ⟨12, Ground.data⟩ (by simp) rfl _ _ rfl rfl
                  clear hS hρ
                  obtain ⟨base, rfl⟩ := Has.base (ρ := ρ) (l := [(88, .slice (some ⟨bb5, 0, none⟩) 1 1), (89, .slice A5 (t.st ++ [arg]).length cp5), (91, .pointer (some ⟨fb, 0 + 3, none⟩))]) ⟨u88, u89, u91, trivial⟩
                  clear u88 u89 u91
                  refine RL.perm (L' := ((Lr5) ++ (([(fb, cel 46 [.slice A l.length c, .int .i64 arg, .int .i64 ((t.pc : Int) + 1), .slice A4 t.st.length cp4, .bool false, .bool false])]) ++ (([(b6, cel 30 (⟨0, 0, 0, 0, 0⟩ : Ev).cells)]) ++ (([(b8, cel 27 x.cells)]) ++ ([(bb5, cel 2 [.int .i64 arg])])))))) rfl hL.symm ?_
                  clear hL
                  refine RL.stS rfl rfl sc35.size rfl rfl (by simp) ?_
                  refine RL.nil ?_
                  exact ⟨rfl, ⟨_, rfl, trivial⟩, .inr (.inr (.inr (⟨e9, e10, rfl, trivial, bb5, A5, cp5, Lr5, hp0, ⟨rfl, rfl, trivial⟩, (by classical exact List.perm_iff_count.2 (fun z => by simp only [List.count_append, List.count_cons, List.count_nil, List.cons_append, List.nil_append, List.append_nil, List.set_cons_zero, List.set_cons_succ] <;> omega))⟩)))⟩
                · exact hS.me e13
              · intro ρ L D hD hT hfix hsp
                rcases hsp with ⟨e9, e10, e13, -, hρ, hL⟩ | ⟨e9, e10, e13, -, bb5, hρ, hL⟩ | ⟨e9, e10, e13, -, bb5, A5, cp5, Lr5, hp0, hρ, hL⟩ | ⟨e9, e10, e13, -, bb5, A5, cp5, Lr5, hp0, hρ, hL⟩
                · exact done_no hD 9 rfl e9
                · exact done_no hD 10 rfl e10
                · exact done_no hD 13 rfl e13
                · have u0 : ρ 0 = .pointer (some ⟨fb, 0, none⟩) := hfix 0 (by decide)
                  have u2 : ρ 2 = .int .i64 u := hfix 2 (by decide)
                  have u6 : ρ 6 = .pointer (some ⟨b6, 0, none⟩) := hfix 6 (by decide)
                  have u8 : ρ 8 = .pointer (some ⟨b8, 0, none⟩) := hfix 8 (by decide)
                  have u88 : ρ 88 = .slice (some ⟨bb5, 0, none⟩) 1 1 := hρ.1
                  have u89 : ρ 89 = .slice A5 (t.st ++ [arg]).length cp5 := hρ.2.1
                  clear hT hfix hD hρ
                  obtain ⟨base, rfl⟩ := Has.base (ρ := ρ) (l := [(0, .pointer (some ⟨fb, 0, none⟩)), (2, .int .i64 u), (6, .pointer (some ⟨b6, 0, none⟩)), (8, .pointer (some ⟨b8, 0, none⟩)), (88, .slice (some ⟨bb5, 0, none⟩) 1 1), (89, .slice A5 (t.st ++ [arg]).length cp5)]) ⟨u0, u2, u6, u8, u88, u89, trivial⟩
                  clear u0 u2 u6 u8 u88 u89
                  refine ⟨_, hL.symm, ((Lr5) ++ (([(fb, cel 46 [.slice A l.length c, .int .i64 arg, .int .i64 ((t.pc : Int) + 1), .slice A5 (t.st ++ [arg]).length cp5, .bool false, .bool false])]) ++ (([(b6, cel 30 (⟨0, 0, 0, 0, 0⟩ : Ev).cells)]) ++ ([(b8, cel 27 x.cells)])))), List.Sublist.append (List.Sublist.refl _) (List.Sublist.append (List.Sublist.refl _) (List.Sublist.append (List.Sublist.refl _) (List.sublist_append_left _ _))), ?_⟩
                  have hr5 := hp0
                  refine X.blk ?_
                  refine X.blk ?_
                  have hn := hwk2.next hv hx hst
                  have hrn := runN_go (n := m) hx.ins hst
                  rw [hrun] at hrn
                  refine X.hyp ⟨rfl, m, by omega, _, (List.Sublist.append (List.Sublist.refl _) (.cons_cons _ (.cons_cons _ (List.nil_sublist _)))), u, ⟨t.pc + 1, t.st ++ [arg], false, false⟩, A5, cp5, Lr5, (by have := hn.2; dsimp only at this ⊢; omega), hn.1, hrn.symm, hr5, ⟨rfl, rfl, rfl, trivial⟩, rfl⟩
            · replace hk2 : ¬ ((_ : Int) = _) := hk2
              refine RL.assign rfl ?_
              refine RL.nil ?_
              refine X.cond_f rfl ?_
              refine X.seq ?_
              refine X.region rfl ?_
              refine RL.cmp_s rfl rfl rfl rfl (fun hk3 => ?_) (fun hk3 => ?_)
              · replace hk3 : (_ : Int) = _ := hk3
                have hst : stepI x arg u t = .go u ⟨t.pc + 1, t.st ++ [u], false, false⟩ := by unfold stepI; simp [hk3]
                refine RL.assign rfl ?_
                refine RL.nil ?_
                refine X.cond_t rfl ?_
                refine X.region rfl ?_
                refine RL.move rfl ?_
                refine RL.move rfl ?_
                refine RL.nilCheck rfl rfl ?_
                refine RL.fieldAddr rfl fd46_3 rfl ?_
                refine RL.loadO rfl sc35 rfl rfl ?_
                refine RL.move rfl ?_
                refine RL.bs1I rfl rfl sl35 zt2 rfl ?_
                intro bb5 hbb5
                refine RL.app1I (Lr := Lr4) (Lz := [(fb, cel 46 [.slice A l.length c, .int .i64 arg, .int .i64 ((t.pc : Int) + 1), .slice A4 t.st.length cp4, .bool false, .bool false]), (b6, cel 30 (⟨0, 0, 0, 0, 0⟩ : Ev).cells), (b8, cel 27 x.cells)]) rfl rfl sl35 el_i64 Try.underlying35 (by classical exact List.perm_iff_count.2 (fun z => by simp only [List.count_append, List.count_cons, List.count_nil, List.cons_append, List.nil_append, List.set_cons_zero, List.set_cons_succ] <;> omega)) rfl rfl hr4 (by rw [ints_length]; (try simp only [List.length_dropLast]); omega) (n := (t.st ++ [u]).length) (by rw [ints_length]; simp) ?_
                intro A5 cp5 Lr5 hr5
                rw [← ints_snoc] at hr5
                refine RL.drop (L' := Lr5 ++ [(fb, cel 46 [.slice A l.length c, .int .i64 arg, .int .i64 ((t.pc : Int) + 1), .slice A4 t.st.length cp4, .bool false, .bool false]), (b6, cel 30 (⟨0, 0, 0, 0, 0⟩ : Ev).cells), (b8, cel 27 x.cells)]) rfl (List.Sublist.append (List.Sublist.refl _) (List.sublist_append_left _ _)) ?_
                refine RL.nilCheck rfl rfl ?_
                refine RL.fieldAddr rfl fd46_3 rfl ?_
                refine RL.stS rfl rfl sc35.size rfl rfl (by first | exact Nat.zero_lt_one | decide | simp) ?_
                refine RL.nil ?_
                refine X.blk ?_
                refine X.blk ?_
                have hn := hwk2.next hv hx hst
                have hrn := runN_go (n := m) hx.ins hst
                rw [hrun] at hrn
                refine X.hyp ⟨rfl, m, by omega, _, (List.Sublist.append (List.Sublist.refl _) (.cons_cons _ (.cons_cons _ (List.nil_sublist _)))), u, ⟨t.pc + 1, t.st ++ [u], false, false⟩, A5, cp5, Lr5, (by have := hn.2; dsimp only at this ⊢; omega), hn.1, hrn.symm, hr5, ⟨rfl, rfl, rfl, trivial⟩, rfl⟩
              · replace hk3 : ¬ ((_ : Int) = _) := hk3
                refine RL.assign rfl ?_
                refine RL.nil ?_
                refine X.cond_f rfl ?_
                refine X.seq ?_
                refine X.region rfl ?_
                refine RL.cmp_s rfl rfl rfl rfl (fun hk4 => ?_) (fun hk4 => ?_)
                · replace hk4 : (_ : Int) = _ := hk4
                  have htk1 : 1 ≤ t.st.length := by rw [hk4, show takeP 4 = 1 from rfl] at htk; omega
                  have hst : stepI x arg u t = .go (top t.st) ⟨t.pc + 1, t.st.dropLast, false, false⟩ := by unfold stepI; simp [hk4]
                  refine RL.assign rfl ?_
                  refine RL.nil ?_
                  refine X.cond_t rfl ?_
                  refine X.region rfl ?_
                  refine RL.move rfl ?_
                  refine RL.move rfl ?_
                  refine RL.nilCheck rfl rfl ?_
                  refine RL.fieldAddr rfl fd46_3 rfl ?_
                  refine RL.loadO rfl sc35 rfl rfl ?_
                  refine RL.fn0 rfl rfl rfl en24 (fun w hw => f_pop t.st A4 cp4 (by simp only [List.length_append, List.length_dropLast, List.length_cons, List.length_nil] at *; omega) (by simp only [List.length_append, List.length_dropLast, List.length_cons, List.length_nil] at *; omega) (row_cap hr4) w (row_rd hr4 hw (fun p hp => List.mem_append_left _ hp))) rfl ?_
                  rintro _ _ ⟨A5, cp5, Lr5, rfl, hr5, hs5⟩
                  refine RL.drop (L' := Lr5 ++ [(fb, cel 46 [.slice A l.length c, .int .i64 arg, .int .i64 ((t.pc : Int) + 1), .slice A4 t.st.length cp4, .bool false, .bool false]), (b6, cel 30 (⟨0, 0, 0, 0, 0⟩ : Ev).cells), (b8, cel 27 x.cells)]) rfl (hs5.append (List.sublist_append_right Lr4 _)) ?_
                  refine RL.move rfl ?_
                  refine RL.extract rfl rfl rfl ?_
                  refine RL.extract rfl rfl rfl ?_
                  refine RL.assign rfl ?_
                  refine RL.nilCheck rfl rfl ?_
                  refine RL.fieldAddr rfl fd46_3 rfl ?_
                  refine RL.stS rfl rfl sc35.size rfl rfl (by first | exact Nat.zero_lt_one | decide | simp) ?_
                  refine RL.nil ?_
                  refine X.blk ?_
                  refine X.blk ?_
                  have hn := hwk2.next hv hx hst
                  have hrn := runN_go (n := m) hx.ins hst
                  rw [hrun] at hrn
                  refine X.hyp ⟨rfl, m, by omega, _, (List.Sublist.append (List.Sublist.refl _) (.cons_cons _ (.cons_cons _ (List.nil_sublist _)))), top t.st, ⟨t.pc + 1, t.st.dropLast, false, false⟩, A5, cp5, Lr5, (by have := hn.2; dsimp only at this ⊢; omega), hn.1, hrn.symm, hr5, ⟨rfl, rfl, rfl, trivial⟩, rfl⟩
                · replace hk4 : ¬ ((_ : Int) = _) := hk4
                  refine RL.assign rfl ?_
                  refine RL.nil ?_
                  refine X.cond_f rfl ?_
                  refine X.seq ?_
                  refine X.region rfl ?_
                  refine RL.cmp_s rfl rfl rfl rfl (fun hk5 => ?_) (fun hk5 => ?_)
                  · replace hk5 : (_ : Int) = _ := hk5
                    have htk1 : 2 ≤ t.st.length := by rw [hk5, show takeP 5 = 2 from rfl] at htk; omega
                    have hst : stepI x arg u t = .go u ⟨t.pc + 1, t.st.dropLast.dropLast ++ [w64 (top t.st.dropLast + top t.st)], false, false⟩ := by unfold stepI; simp [hk5]
                    refine RL.assign rfl ?_
                    refine RL.nil ?_
                    refine X.cond_t rfl ?_
                    refine X.seq ?_
                    refine X.region rfl ?_
                    refine RL.move rfl ?_
                    refine RL.move rfl ?_
                    refine RL.nilCheck rfl rfl ?_
                    refine RL.fieldAddr rfl fd46_3 rfl ?_
                    refine RL.loadO rfl sc35 rfl rfl ?_
                    refine RL.fn0 rfl rfl rfl en24 (fun w hw => f_pop t.st A4 cp4 (by simp only [List.length_append, List.length_dropLast, List.length_cons, List.length_nil] at *; omega) (by simp only [List.length_append, List.length_dropLast, List.length_cons, List.length_nil] at *; omega) (row_cap hr4) w (row_rd hr4 hw (fun p hp => List.mem_append_left _ hp))) rfl ?_
                    rintro _ _ ⟨A5, cp5, Lr5, rfl, hr5, hs5⟩
                    refine RL.drop (L' := Lr5 ++ [(fb, cel 46 [.slice A l.length c, .int .i64 arg, .int .i64 ((t.pc : Int) + 1), .slice A4 t.st.length cp4, .bool false, .bool false]), (b6, cel 30 (⟨0, 0, 0, 0, 0⟩ : Ev).cells), (b8, cel 27 x.cells)]) rfl (hs5.append (List.sublist_append_right Lr4 _)) ?_
                    refine RL.move rfl ?_
                    refine RL.extract rfl rfl rfl ?_
                    refine RL.extract rfl rfl rfl ?_
                    refine RL.assign rfl ?_
                    refine RL.nilCheck rfl rfl ?_
                    refine RL.fieldAddr rfl fd46_3 rfl ?_
                    refine RL.stS rfl rfl sc35.size rfl rfl (by first | exact Nat.zero_lt_one | decide | simp) ?_
                    refine RL.nil ?_
                    refine X.seq ?_
                    refine X.region rfl ?_
                    refine RL.move rfl ?_
                    refine RL.move rfl ?_
                    refine RL.nilCheck rfl rfl ?_
                    refine RL.fieldAddr rfl fd46_3 rfl ?_
                    refine RL.loadO rfl sc35 rfl rfl ?_
                    refine RL.fn0 rfl rfl rfl en24 (fun w hw => f_pop t.st.dropLast A5 cp5 (by simp only [List.length_append, List.length_dropLast, List.length_cons, List.length_nil] at *; omega) (by simp only [List.length_append, List.length_dropLast, List.length_cons, List.length_nil] at *; omega) (row_cap hr5) w (row_rd hr5 hw (fun p hp => List.mem_append_left _ hp))) rfl ?_
                    rintro _ _ ⟨A6, cp6, Lr6, rfl, hr6, hs6⟩
                    refine RL.drop (L' := Lr6 ++ [(fb, cel 46 [.slice A l.length c, .int .i64 arg, .int .i64 ((t.pc : Int) + 1), .slice A5 t.st.dropLast.length cp5, .bool false, .bool false]), (b6, cel 30 (⟨0, 0, 0, 0, 0⟩ : Ev).cells), (b8, cel 27 x.cells)]) rfl (hs6.append (List.sublist_append_right Lr5 _)) ?_
                    refine RL.move rfl ?_
                    refine RL.extract rfl rfl rfl ?_
                    refine RL.extract rfl rfl rfl ?_
                    refine RL.assign rfl ?_
                    refine RL.nilCheck rfl rfl ?_
                    refine RL.fieldAddr rfl fd46_3 rfl ?_
                    refine RL.stS rfl rfl sc35.size rfl rfl (by first | exact Nat.zero_lt_one | decide | simp) ?_
                    refine RL.nil ?_
                    refine X.region rfl ?_
                    refine RL.move rfl ?_
                    refine RL.move rfl ?_
                    refine RL.nilCheck rfl rfl ?_
                    refine RL.fieldAddr rfl fd46_3 rfl ?_
                    refine RL.loadO rfl sc35 rfl rfl ?_
                    refine RL.move rfl ?_
                    refine RL.conv rfl Try.underlying2 Try.underlying64 rfl ?_
                    refine RL.move rfl ?_
                    refine RL.conv rfl Try.underlying2 Try.underlying64 rfl ?_
                    refine RL.addW rfl rfl rfl ?_
                    refine RL.convE rfl Try.underlying64 Try.underlying2 rfl (w64_add_u _ _) ?_
                    refine RL.bs1I rfl rfl sl35 zt2 rfl ?_
                    intro bb7 hbb7
                    refine RL.app1I (Lr := Lr6) (Lz := [(fb, cel 46 [.slice A l.length c, .int .i64 arg, .int .i64 ((t.pc : Int) + 1), .slice A6 t.st.dropLast.dropLast.length cp6, .bool false, .bool false]), (b6, cel 30 (⟨0, 0, 0, 0, 0⟩ : Ev).cells), (b8, cel 27 x.cells)]) rfl rfl sl35 el_i64 Try.underlying35 (by classical exact List.perm_iff_count.2 (fun z => by simp only [List.count_append, List.count_cons, List.count_nil, List.cons_append, List.nil_append, List.set_cons_zero, List.set_cons_succ] <;> omega)) rfl rfl hr6 (by rw [ints_length]; (try simp only [List.length_dropLast]); omega) (n := ((t.st.dropLast.dropLast) ++ [(w64 (top t.st.dropLast + top t.st))]).length) (by rw [ints_length]; simp) ?_
                    intro A7 cp7 Lr7 hr7
                    rw [← ints_snoc] at hr7
                    refine RL.drop (L' := Lr7 ++ [(fb, cel 46 [.slice A l.length c, .int .i64 arg, .int .i64 ((t.pc : Int) + 1), .slice A6 t.st.dropLast.dropLast.length cp6, .bool false, .bool false]), (b6, cel 30 (⟨0, 0, 0, 0, 0⟩ : Ev).cells), (b8, cel 27 x.cells)]) rfl (List.Sublist.append (List.Sublist.refl _) (List.sublist_append_left _ _)) ?_
                    refine RL.nilCheck rfl rfl ?_
                    refine RL.fieldAddr rfl fd46_3 rfl ?_
                    refine RL.stS rfl rfl sc35.size rfl rfl (by first | exact Nat.zero_lt_one | decide | simp) ?_
                    refine RL.nil ?_
                    refine X.blk ?_
                    refine X.blk ?_
                    have hn := hwk2.next hv hx hst
                    have hrn := runN_go (n := m) hx.ins hst
                    rw [hrun] at hrn
                    refine X.hyp ⟨rfl, m, by omega, _, (List.Sublist.append (List.Sublist.refl _) (.cons_cons _ (.cons_cons _ (List.nil_sublist _)))), u, ⟨t.pc + 1, t.st.dropLast.dropLast ++ [w64 (top t.st.dropLast + top t.st)], false, false⟩, A7, cp7, Lr7, (by have := hn.2; dsimp only at this ⊢; omega), hn.1, hrn.symm, hr7, ⟨rfl, rfl, rfl, trivial⟩, rfl⟩
                  · replace hk5 : ¬ ((_ : Int) = _) := hk5
                    refine RL.assign rfl ?_
                    refine RL.nil ?_
                    refine X.cond_f rfl ?_
                    refine X.seq ?_
                    refine X.region rfl ?_
                    refine RL.cmp_s rfl rfl rfl rfl (fun hk6 => ?_) (fun hk6 => ?_)
                    · replace hk6 : (_ : Int) = _ := hk6
                      have htk1 : 1 ≤ t.st.length := by rw [hk6, show takeP 6 = 1 from rfl] at htk; omega
                      have hst : stepI x arg u t = .go u ⟨t.pc + 1, t.st.dropLast ++ [w64 (0 - top t.st)], false, false⟩ := by unfold stepI; simp [hk6]
                      refine RL.assign rfl ?_
                      refine RL.nil ?_
                      refine X.cond_t rfl ?_
                      refine X.seq ?_
                      refine X.region rfl ?_
                      refine RL.move rfl ?_
                      refine RL.move rfl ?_
                      refine RL.nilCheck rfl rfl ?_
                      refine RL.fieldAddr rfl fd46_3 rfl ?_
                      refine RL.loadO rfl sc35 rfl rfl ?_
                      refine RL.fn0 rfl rfl rfl en24 (fun w hw => f_pop t.st A4 cp4 (by simp only [List.length_append, List.length_dropLast, List.length_cons, List.length_nil] at *; omega) (by simp only [List.length_append, List.length_dropLast, List.length_cons, List.length_nil] at *; omega) (row_cap hr4) w (row_rd hr4 hw (fun p hp => List.mem_append_left _ hp))) rfl ?_
                      rintro _ _ ⟨A5, cp5, Lr5, rfl, hr5, hs5⟩
                      refine RL.drop (L' := Lr5 ++ [(fb, cel 46 [.slice A l.length c, .int .i64 arg, .int .i64 ((t.pc : Int) + 1), .slice A4 t.st.length cp4, .bool false, .bool false]), (b6, cel 30 (⟨0, 0, 0, 0, 0⟩ : Ev).cells), (b8, cel 27 x.cells)]) rfl (hs5.append (List.sublist_append_right Lr4 _)) ?_
                      refine RL.move rfl ?_
                      refine RL.extract rfl rfl rfl ?_
                      refine RL.extract rfl rfl rfl ?_
                      refine RL.assign rfl ?_
                      refine RL.nilCheck rfl rfl ?_
                      refine RL.fieldAddr rfl fd46_3 rfl ?_
                      refine RL.stS rfl rfl sc35.size rfl rfl (by first | exact Nat.zero_lt_one | decide | simp) ?_
                      refine RL.nil ?_
                      refine X.region rfl ?_
                      refine RL.move rfl ?_
                      refine RL.move rfl ?_
                      refine RL.nilCheck rfl rfl ?_
                      refine RL.fieldAddr rfl fd46_3 rfl ?_
                      refine RL.loadO rfl sc35 rfl rfl ?_
                      refine RL.move rfl ?_
                      refine RL.conv rfl Try.underlying2 Try.underlying64 rfl ?_
                      refine RL.subW rfl rfl rfl ?_
                      refine RL.convE rfl Try.underlying64 Try.underlying2 rfl (w64_neg_u _) ?_
                      refine RL.bs1I rfl rfl sl35 zt2 rfl ?_
                      intro bb6 hbb6
                      refine RL.app1I (Lr := Lr5) (Lz := [(fb, cel 46 [.slice A l.length c, .int .i64 arg, .int .i64 ((t.pc : Int) + 1), .slice A5 t.st.dropLast.length cp5, .bool false, .bool false]), (b6, cel 30 (⟨0, 0, 0, 0, 0⟩ : Ev).cells), (b8, cel 27 x.cells)]) rfl rfl sl35 el_i64 Try.underlying35 (by classical exact List.perm_iff_count.2 (fun z => by simp only [List.count_append, List.count_cons, List.count_nil, List.cons_append, List.nil_append, List.set_cons_zero, List.set_cons_succ] <;> omega)) rfl rfl hr5 (by rw [ints_length]; (try simp only [List.length_dropLast]); omega) (n := ((t.st.dropLast) ++ [(w64 (0 - top t.st))]).length) (by rw [ints_length]; simp) ?_
                      intro A6 cp6 Lr6 hr6
                      rw [← ints_snoc] at hr6
                      refine RL.drop (L' := Lr6 ++ [(fb, cel 46 [.slice A l.length c, .int .i64 arg, .int .i64 ((t.pc : Int) + 1), .slice A5 t.st.dropLast.length cp5, .bool false, .bool false]), (b6, cel 30 (⟨0, 0, 0, 0, 0⟩ : Ev).cells), (b8, cel 27 x.cells)]) rfl (List.Sublist.append (List.Sublist.refl _) (List.sublist_append_left _ _)) ?_
                      refine RL.nilCheck rfl rfl ?_
                      refine RL.fieldAddr rfl fd46_3 rfl ?_
                      refine RL.stS rfl rfl sc35.size rfl rfl (by first | exact Nat.zero_lt_one | decide | simp) ?_
                      refine RL.nil ?_
                      refine X.blk ?_
                      refine X.blk ?_
                      have hn := hwk2.next hv hx hst
                      have hrn := runN_go (n := m) hx.ins hst
                      rw [hrun] at hrn
                      refine X.hyp ⟨rfl, m, by omega, _, (List.Sublist.append (List.Sublist.refl _) (.cons_cons _ (.cons_cons _ (List.nil_sublist _)))), u, ⟨t.pc + 1, t.st.dropLast ++ [w64 (0 - top t.st)], false, false⟩, A6, cp6, Lr6, (by have := hn.2; dsimp only at this ⊢; omega), hn.1, hrn.symm, hr6, ⟨rfl, rfl, rfl, trivial⟩, rfl⟩
                    · replace hk6 : ¬ ((_ : Int) = _) := hk6
                      refine RL.assign rfl ?_
                      refine RL.nil ?_
                      refine X.cond_f rfl ?_
                      refine X.seq ?_
                      refine X.region rfl ?_
                      refine RL.cmp_s rfl rfl rfl rfl (fun hk7 => ?_) (fun hk7 => ?_)
                      · replace hk7 : (_ : Int) = _ := hk7
                        have htk1 : 1 ≤ t.st.length := by rw [hk7, show takeP 7 = 1 from rfl] at htk; omega
                        have hsk := hx.skip hk7
                        refine RL.assign rfl ?_
                        refine RL.nil ?_
                        refine X.cond_t rfl ?_
                        refine X.seq ?_
                        refine X.region rfl ?_
                        refine RL.move rfl ?_
                        refine RL.move rfl ?_
                        refine RL.nilCheck rfl rfl ?_
                        refine RL.fieldAddr rfl fd46_3 rfl ?_
                        refine RL.loadO rfl sc35 rfl rfl ?_
                        refine RL.fn0 rfl rfl rfl en24 (fun w hw => f_pop t.st A4 cp4 (by simp only [List.length_append, List.length_dropLast, List.length_cons, List.length_nil] at *; omega) (by simp only [List.length_append, List.length_dropLast, List.length_cons, List.length_nil] at *; omega) (row_cap hr4) w (row_rd hr4 hw (fun p hp => List.mem_append_left _ hp))) rfl ?_
                        rintro _ _ ⟨A5, cp5, Lr5, rfl, hr5, hs5⟩
                        refine RL.drop (L' := Lr5 ++ [(fb, cel 46 [.slice A l.length c, .int .i64 arg, .int .i64 ((t.pc : Int) + 1), .slice A4 t.st.length cp4, .bool false, .bool false]), (b6, cel 30 (⟨0, 0, 0, 0, 0⟩ : Ev).cells), (b8, cel 27 x.cells)]) rfl (hs5.append (List.sublist_append_right Lr4 _)) ?_
                        refine RL.move rfl ?_
                        refine RL.extract rfl rfl rfl ?_
                        refine RL.extract rfl rfl rfl ?_
                        refine RL.assign rfl ?_
                        refine RL.nilCheck rfl rfl ?_
                        refine RL.fieldAddr rfl fd46_3 rfl ?_
                        refine RL.stS rfl rfl sc35.size rfl rfl (by first | exact Nat.zero_lt_one | decide | simp) ?_
                        refine RL.nil ?_
                        refine X.seq ?_
                        refine X.region rfl ?_
                        refine RL.move rfl ?_
                        refine RL.cmp_s rfl rfl rfl rfl (fun hz => ?_) (fun hz => ?_)
                        · replace hz : (_ : Int) = _ := hz
                          have hst : stepI x arg u t = .go u ⟨t.pc + 1 + x.a.toNat, t.st.dropLast, false, false⟩ := by unfold stepI; simp [hk7, hz]
                          refine RL.nil ?_
                          refine X.cond_t rfl ?_
                          refine X.set [.val (.pointer (some ⟨fb, 0, none⟩)), .val (.pointer (some ⟨fb, 0, none⟩)), .val (.pointer (some ⟨fb, 0, none⟩)), .val (.pointer (some ⟨fb, 0 + 2, none⟩)), .val (.int .i64 ((t.pc : Int) + 1)), .val (.pointer (some ⟨b8, 0 + 1, none⟩)), .val (.int .i64 x.a), .val (.int .i64 (((t.pc + 1 + x.a.toNat : Nat)) : Int)), .val (.pointer (some ⟨fb, 0, none⟩)), .val (.pointer (some ⟨fb, 0 + 2, none⟩)), .any] [[], [], [1], [1, 2], [1, 2, 3], [], [5], [1, 2, 3, 4, 5, 6], [0, 1, 2, 3, 4, 5, 6, 7], [0, 1, 2, 3, 4, 5, 6, 7, 8], [0, 1, 2, 3, 4, 5, 6, 7, 8, 9]] (fun D ρ L => (D 10 = false ∧ True ∧ Has ρ [] ∧ L.Perm ((Lr5) ++ (([(fb, cel 46 [.slice A l.length c, .int .i64 arg, .int .i64 ((t.pc : Int) + 1), .slice A5 t.st.dropLast.length cp5, .bool false, .bool false])]) ++ (([(b6, cel 30 (⟨0, 0, 0, 0, 0⟩ : Ev).cells)]) ++ ([(b8, cel 27 x.cells)]))))) ∨ (D 10 = true ∧ True ∧ Has ρ [] ∧ L.Perm ((Lr5) ++ (([(fb, cel 46 [.slice A l.length c, .int .i64 arg, .int .i64 (((t.pc + 1 + x.a.toNat : Nat)) : Int), .slice A5 t.st.dropLast.length cp5, .bool false, .bool false])]) ++ (([(b6, cel 30 (⟨0, 0, 0, 0, 0⟩ : Ev).cells)]) ++ ([(b8, cel 27 x.cells)])))))) rfl (by kernel_rfl) (by kernel_rfl) (by kernel_rfl) (by kernel_rfl) (fun D hD => .inl ⟨hD 10, trivial, trivial, (List.Perm.refl _)⟩) ⟨?_, ?_, ?_, ?_, ?_, ?_, ?_, ?_, ?_, ?_, ?_, trivial⟩ ?_
                          · intro ρ L D hS
                            rcases hS.sp with ⟨e10, -, hρ, hL⟩ | ⟨e10, -, hρ, hL⟩
                            · have u0 : ρ 0 = .pointer (some ⟨fb, 0, none⟩) := hS.fix 0 (by decide)
                              clear hS hρ
                              obtain ⟨base, rfl⟩ := Has.base (ρ := ρ) (l := [(0, .pointer (some ⟨fb, 0, none⟩))]) ⟨u0, trivial⟩
                              clear u0
                              refine RL.perm (L' := ((Lr5) ++ (([(fb, cel 46 [.slice A l.length c, .int .i64 arg, .int .i64 ((t.pc : Int) + 1), .slice A5 t.st.dropLast.length cp5, .bool false, .bool false])]) ++ (([(b6, cel 30 (⟨0, 0, 0, 0, 0⟩ : Ev).cells)]) ++ ([(b8, cel 27 x.cells)]))))) rfl hL.symm ?_
                              clear hL
                              refine RL.move rfl ?_
                              refine RL.nil ?_
                              exact ⟨rfl, ⟨_, rfl, rfl⟩, .inl ⟨e10, trivial, trivial, List.Perm.refl _⟩⟩
                            · exact hS.hi 10 rfl (by kernel_rfl) e10
                          · intro ρ L D hS
                            rcases hS.sp with ⟨e10, -, hρ, hL⟩ | ⟨e10, -, hρ, hL⟩
                            · have u0 : ρ 0 = .pointer (some ⟨fb, 0, none⟩) := hS.fix 0 (by decide)
                              clear hS hρ
                              obtain ⟨base, rfl⟩ := Has.base (ρ := ρ) (l := [(0, .pointer (some ⟨fb, 0, none⟩))]) ⟨u0, trivial⟩
                              clear u0
                              refine RL.perm (L' := ((Lr5) ++ (([(fb, cel 46 [.slice A l.length c, .int .i64 arg, .int .i64 ((t.pc : Int) + 1), .slice A5 t.st.dropLast.length cp5, .bool false, .bool false])]) ++ (([(b6, cel 30 (⟨0, 0, 0, 0, 0⟩ : Ev).cells)]) ++ ([(b8, cel 27 x.cells)]))))) rfl hL.symm ?_
                              clear hL
                              refine RL.move rfl ?_
                              refine RL.nil ?_
                              exact ⟨rfl, ⟨_, rfl, rfl⟩, .inl ⟨e10, trivial, trivial, List.Perm.refl _⟩⟩
                            · exact hS.hi 10 rfl (by kernel_rfl) e10
                          · intro ρ L D hS
                            rcases hS.sp with ⟨e10, -, hρ, hL⟩ | ⟨e10, -, hρ, hL⟩
                            · have u198 : ρ 198 = .pointer (some ⟨fb, 0, none⟩) := hS.dep ⟨1, Ground.data⟩ (by simp) rfl _ _ rfl rfl
                              clear hS hρ
                              obtain ⟨base, rfl⟩ := Has.base (ρ := ρ) (l := [(198, .pointer (some ⟨fb, 0, none⟩))]) ⟨u198, trivial⟩
                              clear u198
                              refine RL.perm (L' := ((Lr5) ++ (([(fb, cel 46 [.slice A l.length c, .int .i64 arg, .int .i64 ((t.pc : Int) + 1), .slice A5 t.st.dropLast.length cp5, .bool false, .bool false])]) ++ (([(b6, cel 30 (⟨0, 0, 0, 0, 0⟩ : Ev).cells)]) ++ ([(b8, cel 27 x.cells)]))))) rfl hL.symm ?_
                              clear hL
                              refine RL.nilCheck rfl rfl ?_
                              refine RL.nil ?_
                              exact ⟨rfl, ⟨_, rfl, rfl⟩, .inl ⟨e10, trivial, trivial, List.Perm.refl _⟩⟩
                            · exact hS.hi 10 rfl (by kernel_rfl) e10
                          · intro ρ L D hS
                            rcases hS.sp with ⟨e10, -, hρ, hL⟩ | ⟨e10, -, hρ, hL⟩
                            · have u199 : ρ 199 = .pointer (some ⟨fb, 0, none⟩) := hS.dep ⟨2, Ground.data⟩ (by simp) rfl _ _ rfl rfl
                              clear hS hρ
                              obtain ⟨base, rfl⟩ := Has.base (ρ := ρ) (l := [(199, .pointer (some ⟨fb, 0, none⟩))]) ⟨u199, trivial⟩
                              clear u199
                              refine RL.perm (L' := ((Lr5) ++ (([(fb, cel 46 [.slice A l.length c, .int .i64 arg, .int .i64 ((t.pc : Int) + 1), .slice A5 t.st.dropLast.length cp5, .bool false, .bool false])]) ++ (([(b6, cel 30 (⟨0, 0, 0, 0, 0⟩ : Ev).cells)]) ++ ([(b8, cel 27 x.cells)]))))) rfl hL.symm ?_
                              clear hL
                              refine RL.fieldAddr rfl fd46_2 rfl ?_
                              refine RL.nil ?_
                              exact ⟨rfl, ⟨_, rfl, rfl⟩, .inl ⟨e10, trivial, trivial, List.Perm.refl _⟩⟩
                            · exact hS.hi 10 rfl (by kernel_rfl) e10
                          · intro ρ L D hS
                            rcases hS.sp with ⟨e10, -, hρ, hL⟩ | ⟨e10, -, hρ, hL⟩
                            · have u200 : ρ 200 = .pointer (some ⟨fb, 0 + 2, none⟩) := hS.dep ⟨3, Ground.data⟩ (by simp) rfl _ _ rfl rfl
                              clear hS hρ
                              obtain ⟨base, rfl⟩ := Has.base (ρ := ρ) (l := [(200, .pointer (some ⟨fb, 0 + 2, none⟩))]) ⟨u200, trivial⟩
                              clear u200
                              refine RL.perm (L' := ((Lr5) ++ (([(fb, cel 46 [.slice A l.length c, .int .i64 arg, .int .i64 ((t.pc : Int) + 1), .slice A5 t.st.dropLast.length cp5, .bool false, .bool false])]) ++ (([(b6, cel 30 (⟨0, 0, 0, 0, 0⟩ : Ev).cells)]) ++ ([(b8, cel 27 x.cells)]))))) rfl hL.symm ?_
                              clear hL
                              refine RL.loadO rfl sc3 rfl rfl ?_
                              refine RL.nil ?_
                              exact ⟨rfl, ⟨_, rfl, rfl⟩, .inl ⟨e10, trivial, trivial, List.Perm.refl _⟩⟩
                            · exact hS.hi 10 rfl (by kernel_rfl) e10
                          · intro ρ L D hS
                            rcases hS.sp with ⟨e10, -, hρ, hL⟩ | ⟨e10, -, hρ, hL⟩
                            · have u8 : ρ 8 = .pointer (some ⟨b8, 0, none⟩) := hS.fix 8 (by decide)
                              clear hS hρ
                              obtain ⟨base, rfl⟩ := Has.base (ρ := ρ) (l := [(8, .pointer (some ⟨b8, 0, none⟩))]) ⟨u8, trivial⟩
                              clear u8
                              refine RL.perm (L' := ((Lr5) ++ (([(fb, cel 46 [.slice A l.length c, .int .i64 arg, .int .i64 ((t.pc : Int) + 1), .slice A5 t.st.dropLast.length cp5, .bool false, .bool false])]) ++ (([(b6, cel 30 (⟨0, 0, 0, 0, 0⟩ : Ev).cells)]) ++ ([(b8, cel 27 x.cells)]))))) rfl hL.symm ?_
                              clear hL
                              refine RL.fieldAddr rfl fd27_1 rfl ?_
                              refine RL.nil ?_
                              exact ⟨rfl, ⟨_, rfl, rfl⟩, .inl ⟨e10, trivial, trivial, List.Perm.refl _⟩⟩
                            · exact hS.hi 10 rfl (by kernel_rfl) e10
                          · intro ρ L D hS
                            rcases hS.sp with ⟨e10, -, hρ, hL⟩ | ⟨e10, -, hρ, hL⟩
                            · have u202 : ρ 202 = .pointer (some ⟨b8, 0 + 1, none⟩) := hS.dep ⟨5, Ground.data⟩ (by simp) rfl _ _ rfl rfl
                              clear hS hρ
                              obtain ⟨base, rfl⟩ := Has.base (ρ := ρ) (l := [(202, .pointer (some ⟨b8, 0 + 1, none⟩))]) ⟨u202, trivial⟩
                              clear u202
                              refine RL.perm (L' := ((Lr5) ++ (([(fb, cel 46 [.slice A l.length c, .int .i64 arg, .int .i64 ((t.pc : Int) + 1), .slice A5 t.st.dropLast.length cp5, .bool false, .bool false])]) ++ (([(b6, cel 30 (⟨0, 0, 0, 0, 0⟩ : Ev).cells)]) ++ ([(b8, cel 27 x.cells)]))))) rfl hL.symm ?_
                              clear hL
                              refine RL.loadO rfl sc3 rfl rfl ?_
                              refine RL.nil ?_
                              exact ⟨rfl, ⟨_, rfl, rfl⟩, .inl ⟨e10, trivial, trivial, List.Perm.refl _⟩⟩
                            · exact hS.hi 10 rfl (by kernel_rfl) e10
                          · intro ρ L D hS
                            rcases hS.sp with ⟨e10, -, hρ, hL⟩ | ⟨e10, -, hρ, hL⟩
                            · have u201 : ρ 201 = .int .i64 ((t.pc : Int) + 1) := hS.dep ⟨4, Ground.data⟩ (by simp) rfl _ _ rfl rfl
                              have u203 : ρ 203 = .int .i64 x.a := hS.dep ⟨6, Ground.data⟩ (by simp) rfl _ _ rfl rfl
                              clear hS hρ
                              obtain ⟨base, rfl⟩ := Has.base (ρ := ρ) (l := [(201, .int .i64 ((t.pc : Int) + 1)), (203, .int .i64 x.a)]) ⟨u201, u203, trivial⟩
                              clear u201 u203
                              refine RL.perm (L' := ((Lr5) ++ (([(fb, cel 46 [.slice A l.length c, .int .i64 arg, .int .i64 ((t.pc : Int) + 1), .slice A5 t.st.dropLast.length cp5, .bool false, .bool false])]) ++ (([(b6, cel 30 (⟨0, 0, 0, 0, 0⟩ : Ev).cells)]) ++ ([(b8, cel 27 x.cells)]))))) rfl hL.symm ?_
                              clear hL
                              refine RL.add rfl rfl rfl (by omega) ?_
                              rw [show ((t.pc : Int) + 1) + x.a = (((t.pc + 1 + x.a.toNat : Nat)) : Int) from by omega]
                              refine RL.nil ?_
                              exact ⟨rfl, ⟨_, rfl, rfl⟩, .inl ⟨e10, trivial, trivial, List.Perm.refl _⟩⟩
                            · exact hS.hi 10 rfl (by kernel_rfl) e10
                          · intro ρ L D hS
                            rcases hS.sp with ⟨e10, -, hρ, hL⟩ | ⟨e10, -, hρ, hL⟩
                            · have u197 : ρ 197 = .pointer (some ⟨fb, 0, none⟩) := hS.dep ⟨0, Ground.data⟩ (by simp) rfl _ _ rfl rfl
                              clear hS hρ
                              obtain ⟨base, rfl⟩ := Has.base (ρ := ρ) (l := [(197, .pointer (some ⟨fb, 0, none⟩))]) ⟨u197, trivial⟩
                              clear u197
                              refine RL.perm (L' := ((Lr5) ++ (([(fb, cel 46 [.slice A l.length c, .int .i64 arg, .int .i64 ((t.pc : Int) + 1), .slice A5 t.st.dropLast.length cp5, .bool false, .bool false])]) ++ (([(b6, cel 30 (⟨0, 0, 0, 0, 0⟩ : Ev).cells)]) ++ ([(b8, cel 27 x.cells)]))))) rfl hL.symm ?_
                              clear hL
                              refine RL.nilCheck rfl rfl ?_
                              refine RL.nil ?_
                              exact ⟨rfl, ⟨_, rfl, rfl⟩, .inl ⟨e10, trivial, trivial, List.Perm.refl _⟩⟩
                            · exact hS.hi 10 rfl (by kernel_rfl) e10
                          · intro ρ L D hS
                            rcases hS.sp with ⟨e10, -, hρ, hL⟩ | ⟨e10, -, hρ, hL⟩
                            · have u205 : ρ 205 = .pointer (some ⟨fb, 0, none⟩) := hS.dep ⟨8, Ground.data⟩ (by simp) rfl _ _ rfl rfl
                              clear hS hρ
                              obtain ⟨base, rfl⟩ := Has.base (ρ := ρ) (l := [(205, .pointer (some ⟨fb, 0, none⟩))]) ⟨u205, trivial⟩
                              clear u205
                              refine RL.perm (L' := ((Lr5) ++ (([(fb, cel 46 [.slice A l.length c, .int .i64 arg, .int .i64 ((t.pc : Int) + 1), .slice A5 t.st.dropLast.length cp5, .bool false, .bool false])]) ++ (([(b6, cel 30 (⟨0, 0, 0, 0, 0⟩ : Ev).cells)]) ++ ([(b8, cel 27 x.cells)]))))) rfl hL.symm ?_
                              clear hL
                              refine RL.fieldAddr rfl fd46_2 rfl ?_
                              refine RL.nil ?_
                              exact ⟨rfl, ⟨_, rfl, rfl⟩, .inl ⟨e10, trivial, trivial, List.Perm.refl _⟩⟩
                            · exact hS.hi 10 rfl (by kernel_rfl) e10
                          · intro ρ L D hS
                            rcases hS.sp with ⟨e10, -, hρ, hL⟩ | ⟨e10, -, hρ, hL⟩
                            · have u204 : ρ 204 = .int .i64 (((t.pc + 1 + x.a.toNat : Nat)) : Int) := hS.dep ⟨7, Ground.data⟩ (by simp) rfl _ _ rfl rfl
                              have u206 : ρ 206 = .pointer (some ⟨fb, 0 + 2, none⟩) := hS.dep ⟨9, Ground.data⟩ (by simp) rfl _ _ rfl rfl
                              clear hS hρ
                              obtain ⟨base, rfl⟩ := Has.base (ρ := ρ) (l := [(204, .int .i64 (((t.pc + 1 + x.a.toNat : Nat)) : Int)), (206, .pointer (some ⟨fb, 0 + 2, none⟩))]) ⟨u204, u206, trivial⟩
                              clear u204 u206
                              refine RL.perm (L' := ((Lr5) ++ (([(fb, cel 46 [.slice A l.length c, .int .i64 arg, .int .i64 ((t.pc : Int) + 1), .slice A5 t.st.dropLast.length cp5, .bool false, .bool false])]) ++ (([(b6, cel 30 (⟨0, 0, 0, 0, 0⟩ : Ev).cells)]) ++ ([(b8, cel 27 x.cells)]))))) rfl hL.symm ?_
                              clear hL
                              refine RL.stI rfl rfl sc3.size rfl rfl (by simp) ?_
                              refine RL.nil ?_
                              exact ⟨rfl, ⟨_, rfl, trivial⟩, .inr (⟨rfl, trivial, trivial, (by classical exact List.perm_iff_count.2 (fun z => by simp only [List.count_append, List.count_cons, List.count_nil, List.cons_append, List.nil_append, List.append_nil, List.set_cons_zero, List.set_cons_succ] <;> omega))⟩)⟩
                            · exact hS.me e10
                          · intro ρ L D hD hT hfix hsp
                            rcases hsp with ⟨e10, -, hρ, hL⟩ | ⟨e10, -, hρ, hL⟩
                            · exact done_no hD 10 rfl e10
                            · have u0 : ρ 0 = .pointer (some ⟨fb, 0, none⟩) := hfix 0 (by decide)
                              have u2 : ρ 2 = .int .i64 u := hfix 2 (by decide)
                              have u6 : ρ 6 = .pointer (some ⟨b6, 0, none⟩) := hfix 6 (by decide)
                              have u8 : ρ 8 = .pointer (some ⟨b8, 0, none⟩) := hfix 8 (by decide)
                              clear hT hfix hD hρ
                              obtain ⟨base, rfl⟩ := Has.base (ρ := ρ) (l := [(0, .pointer (some ⟨fb, 0, none⟩)), (2, .int .i64 u), (6, .pointer (some ⟨b6, 0, none⟩)), (8, .pointer (some ⟨b8, 0, none⟩))]) ⟨u0, u2, u6, u8, trivial⟩
                              clear u0 u2 u6 u8
                              refine ⟨_, hL.symm, ((Lr5) ++ (([(fb, cel 46 [.slice A l.length c, .int .i64 arg, .int .i64 (((t.pc + 1 + x.a.toNat : Nat)) : Int), .slice A5 t.st.dropLast.length cp5, .bool false, .bool false])]) ++ (([(b6, cel 30 (⟨0, 0, 0, 0, 0⟩ : Ev).cells)]) ++ ([(b8, cel 27 x.cells)])))), List.Sublist.append (List.Sublist.refl _) (List.Sublist.append (List.Sublist.refl _) (List.Sublist.append (List.Sublist.refl _) (List.Sublist.refl _))), ?_⟩
                              refine X.blk ?_
                              refine X.blk ?_
                              have hn := hwk2.next hv hx hst
                              have hrn := runN_go (n := m) hx.ins hst
                              rw [hrun] at hrn
                              refine X.hyp ⟨rfl, m, by omega, _, (List.Sublist.append (List.Sublist.refl _) (.cons_cons _ (.cons_cons _ (List.nil_sublist _)))), u, ⟨t.pc + 1 + x.a.toNat, t.st.dropLast, false, false⟩, A5, cp5, Lr5, (by have := hn.2; dsimp only at this ⊢; omega), hn.1, hrn.symm, hr5, ⟨rfl, rfl, rfl, trivial⟩, rfl⟩
                        · replace hz : ¬ ((_ : Int) = _) := hz
                          have hst : stepI x arg u t = .go u ⟨t.pc + 1, t.st.dropLast, false, false⟩ := by unfold stepI; simp [hk7, hz]
                          refine RL.nil ?_
                          refine X.cond_f rfl ?_
                          refine X.skip ?_
                          refine X.blk ?_
                          refine X.blk ?_
                          have hn := hwk2.next hv hx hst
                          have hrn := runN_go (n := m) hx.ins hst
                          rw [hrun] at hrn
                          refine X.hyp ⟨rfl, m, by omega, _, (List.Sublist.append (List.Sublist.refl _) (.cons_cons _ (.cons_cons _ (List.nil_sublist _)))), u, ⟨t.pc + 1, t.st.dropLast, false, false⟩, A5, cp5, Lr5, (by have := hn.2; dsimp only at this ⊢; omega), hn.1, hrn.symm, hr5, ⟨rfl, rfl, rfl, trivial⟩, rfl⟩
                      · replace hk7 : ¬ ((_ : Int) = _) := hk7
                        refine RL.assign rfl ?_
                        refine RL.nil ?_
                        refine X.cond_f rfl ?_
                        refine X.seq ?_
                        refine X.region rfl ?_
                        refine RL.cmp_s rfl rfl rfl rfl (fun hk8 => ?_) (fun hk8 => ?_)
                        · replace hk8 : (_ : Int) = _ := hk8
                          have htk1 : 1 ≤ t.st.length := by rw [hk8, show takeP 8 = 1 from rfl] at htk; omega
                          have hst : stepI x arg u t = .stop ⟨2, x.a, x.b, top t.st, 0⟩ u ⟨t.pc + 1, t.st.dropLast, true, false⟩ := by unfold stepI; simp [hk8]
                          refine RL.assign rfl ?_
                          refine RL.nil ?_
                          refine X.cond_t rfl ?_
                          refine X.seq ?_
                          refine X.region rfl ?_
                          refine RL.move rfl ?_
                          refine RL.move rfl ?_
                          refine RL.nilCheck rfl rfl ?_
                          refine RL.fieldAddr rfl fd46_3 rfl ?_
                          refine RL.loadO rfl sc35 rfl rfl ?_
                          refine RL.fn0 rfl rfl rfl en24 (fun w hw => f_pop t.st A4 cp4 (by simp only [List.length_append, List.length_dropLast, List.length_cons, List.length_nil] at *; omega) (by simp only [List.length_append, List.length_dropLast, List.length_cons, List.length_nil] at *; omega) (row_cap hr4) w (row_rd hr4 hw (fun p hp => List.mem_append_left _ hp))) rfl ?_
                          rintro _ _ ⟨A5, cp5, Lr5, rfl, hr5, hs5⟩
                          refine RL.drop (L' := Lr5 ++ [(fb, cel 46 [.slice A l.length c, .int .i64 arg, .int .i64 ((t.pc : Int) + 1), .slice A4 t.st.length cp4, .bool false, .bool false]), (b6, cel 30 (⟨0, 0, 0, 0, 0⟩ : Ev).cells), (b8, cel 27 x.cells)]) rfl (hs5.append (List.sublist_append_right Lr4 _)) ?_
                          refine RL.move rfl ?_
                          refine RL.extract rfl rfl rfl ?_
                          refine RL.extract rfl rfl rfl ?_
                          refine RL.assign rfl ?_
                          refine RL.nilCheck rfl rfl ?_
                          refine RL.fieldAddr rfl fd46_3 rfl ?_
                          refine RL.stS rfl rfl sc35.size rfl rfl (by first | exact Nat.zero_lt_one | decide | simp) ?_
                          refine RL.nil ?_
                          refine X.seq ?_
                          refine X.region rfl ?_
                          refine RL.move rfl ?_
                          refine RL.nilCheck rfl rfl ?_
                          refine RL.fieldAddr rfl fd46_4 rfl ?_
                          refine RL.stB rfl rfl sc4.size rfl rfl (by first | exact Nat.zero_lt_one | decide | simp) ?_
                          refine RL.nil ?_
                          refine X.seq ?_
                          refine X.region rfl ?_
                          refine RL.fieldAddr rfl fd27_1 rfl ?_
                          refine RL.loadO rfl sc3 rfl rfl ?_
                          refine RL.fieldAddr rfl fd27_2 rfl ?_
                          refine RL.loadO rfl sc3 rfl rfl ?_
                          refine RL.move rfl ?_
                          refine RL.bldC (vs := [(0, .int .i64 (2)), (1, .int .i64 (x.a)), (2, .int .i64 (x.b)), (3, .int .i64 (top t.st))]) (cells := (⟨2, x.a, x.b, top t.st, 0⟩ : Ev).cells) rfl rfl (fun w => by kernel_rfl) ?_
                          refine RL.move rfl ?_
                          refine RL.stA (l := (⟨0, 0, 0, 0, 0⟩ : Ev).cells) rfl rfl ag30.size rfl rfl (Ev.len _) (Ev.len ⟨0, 0, 0, 0, 0⟩) (Ev.one _) ?_
                          refine RL.assign rfl ?_
                          refine RL.nil ?_
                          refine X.ret ?_
                          refine retcA2 rfl ag30 rfl (Ev.len _) ?_
                          rw [← hrun, runN_stop hx.ins hst]
                          exact ⟨rfl, A5, cp5, Lr5, hr5, List.Sublist.append (List.Sublist.refl _) (.cons_cons _ (List.nil_sublist _))⟩
                        · replace hk8 : ¬ ((_ : Int) = _) := hk8
                          refine RL.assign rfl ?_
                          refine RL.nil ?_
                          refine X.cond_f rfl ?_
                          refine X.seq ?_
                          refine X.region rfl ?_
                          refine RL.cmp_s rfl rfl rfl rfl (fun hk9 => ?_) (fun hk9 => ?_)
                          · replace hk9 : (_ : Int) = _ := hk9
                            have hst : stepI x arg u t = .stop ⟨3, x.a, 0, 0, 0⟩ u ⟨t.pc + 1, t.st, false, false⟩ := by unfold stepI; simp [hk9]
                            refine RL.assign rfl ?_
                            refine RL.nil ?_
                            refine X.cond_t rfl ?_
                            refine X.seq ?_
                            refine X.region rfl ?_
                            refine RL.fieldAddr rfl fd27_1 rfl ?_
                            refine RL.loadO rfl sc3 rfl rfl ?_
                            refine RL.bldC (vs := [(0, .int .i64 (3)), (1, .int .i64 (x.a))]) (cells := (⟨3, x.a, 0, 0, 0⟩ : Ev).cells) rfl rfl (fun w => by kernel_rfl) ?_
                            refine RL.move rfl ?_
                            refine RL.stA (l := (⟨0, 0, 0, 0, 0⟩ : Ev).cells) rfl rfl ag30.size rfl rfl (Ev.len _) (Ev.len ⟨0, 0, 0, 0, 0⟩) (Ev.one _) ?_
                            refine RL.assign rfl ?_
                            refine RL.nil ?_
                            refine X.ret ?_
                            refine retcA2 rfl ag30 rfl (Ev.len _) ?_
                            rw [← hrun, runN_stop hx.ins hst]
                            exact ⟨rfl, A4, cp4, Lr4, hr4, List.Sublist.append (List.Sublist.refl _) (.cons_cons _ (List.nil_sublist _))⟩
                          · replace hk9 : ¬ ((_ : Int) = _) := hk9
                            refine RL.assign rfl ?_
                            refine RL.nil ?_
                            refine X.cond_f rfl ?_
                            refine X.seq ?_
                            refine X.region rfl ?_
                            refine RL.cmp_s rfl rfl rfl rfl (fun hk10 => ?_) (fun hk10 => ?_)
                            · replace hk10 : (_ : Int) = _ := hk10
                              have hst : stepI x arg u t = .stop ⟨4, x.a, 0, 0, 0⟩ u ⟨t.pc + 1, t.st, false, false⟩ := by unfold stepI; simp [hk10]
                              refine RL.assign rfl ?_
                              refine RL.nil ?_
                              refine X.cond_t rfl ?_
                              refine X.seq ?_
                              refine X.region rfl ?_
                              refine RL.fieldAddr rfl fd27_1 rfl ?_
                              refine RL.loadO rfl sc3 rfl rfl ?_
                              refine RL.bldC (vs := [(0, .int .i64 (4)), (1, .int .i64 (x.a))]) (cells := (⟨4, x.a, 0, 0, 0⟩ : Ev).cells) rfl rfl (fun w => by kernel_rfl) ?_
                              refine RL.move rfl ?_
                              refine RL.stA (l := (⟨0, 0, 0, 0, 0⟩ : Ev).cells) rfl rfl ag30.size rfl rfl (Ev.len _) (Ev.len ⟨0, 0, 0, 0, 0⟩) (Ev.one _) ?_
                              refine RL.assign rfl ?_
                              refine RL.nil ?_
                              refine X.ret ?_
                              refine retcA2 rfl ag30 rfl (Ev.len _) ?_
                              rw [← hrun, runN_stop hx.ins hst]
                              exact ⟨rfl, A4, cp4, Lr4, hr4, List.Sublist.append (List.Sublist.refl _) (.cons_cons _ (List.nil_sublist _))⟩
                            · replace hk10 : ¬ ((_ : Int) = _) := hk10
                              refine RL.assign rfl ?_
                              refine RL.nil ?_
                              refine X.cond_f rfl ?_
                              refine X.seq ?_
                              refine X.region rfl ?_
                              have hk11 : x.op = 11 := by omega
                              have htk1 : t.st.length = 1 := hx.ret hk11
                              have hst : stepI x arg u t = .stop ⟨1, 0, 0, top t.st, 0⟩ u ⟨t.pc, t.st.dropLast, false, true⟩ := by unfold stepI; simp [hk11]
                              refine RL.cmp_t rfl rfl rfl rfl (by show ((_ : Int) = _); omega) ?_
                              refine RL.assign rfl ?_
                              refine RL.nil ?_
                              refine X.cond_t rfl ?_
                              refine X.seq ?_
                              refine X.region rfl ?_
                              refine RL.move rfl ?_
                              refine RL.move rfl ?_
                              refine RL.nilCheck rfl rfl ?_
                              refine RL.fieldAddr rfl fd46_3 rfl ?_
                              refine RL.loadO rfl sc35 rfl rfl ?_
                              refine RL.fn0 rfl rfl rfl en24 (fun w hw => f_pop t.st A4 cp4 (by simp only [List.length_append, List.length_dropLast, List.length_cons, List.length_nil] at *; omega) (by simp only [List.length_append, List.length_dropLast, List.length_cons, List.length_nil] at *; omega) (row_cap hr4) w (row_rd hr4 hw (fun p hp => List.mem_append_left _ hp))) rfl ?_
                              rintro _ _ ⟨A5, cp5, Lr5, rfl, hr5, hs5⟩
                              refine RL.drop (L' := Lr5 ++ [(fb, cel 46 [.slice A l.length c, .int .i64 arg, .int .i64 ((t.pc : Int) + 1), .slice A4 t.st.length cp4, .bool false, .bool false]), (b6, cel 30 (⟨0, 0, 0, 0, 0⟩ : Ev).cells), (b8, cel 27 x.cells)]) rfl (hs5.append (List.sublist_append_right Lr4 _)) ?_
                              refine RL.move rfl ?_
                              refine RL.extract rfl rfl rfl ?_
                              refine RL.extract rfl rfl rfl ?_
                              refine RL.assign rfl ?_
                              refine RL.nilCheck rfl rfl ?_
                              refine RL.fieldAddr rfl fd46_3 rfl ?_
                              refine RL.stS rfl rfl sc35.size rfl rfl (by first | exact Nat.zero_lt_one | decide | simp) ?_
                              refine RL.nil ?_
                              refine X.seq ?_
                              refine X.region rfl ?_
                              refine RL.move rfl ?_
                              refine RL.move rfl ?_
                              refine RL.nilCheck rfl rfl ?_
                              refine RL.fieldAddr rfl fd46_2 rfl ?_
                              refine RL.loadO rfl sc3 rfl rfl ?_
                              refine RL.sub rfl rfl rfl (by omega) ?_
                              refine RL.nilCheck rfl rfl ?_
                              refine RL.fieldAddr rfl fd46_2 rfl ?_
                              refine RL.stI rfl rfl sc3.size rfl rfl (by first | exact Nat.zero_lt_one | decide | simp) ?_
                              refine RL.nil ?_
                              refine X.seq ?_
                              refine X.region rfl ?_
                              refine RL.move rfl ?_
                              refine RL.nilCheck rfl rfl ?_
                              refine RL.fieldAddr rfl fd46_5 rfl ?_
                              refine RL.stB rfl rfl sc4.size rfl rfl (by first | exact Nat.zero_lt_one | decide | simp) ?_
                              refine RL.nil ?_
                              refine X.seq ?_
                              refine X.region rfl ?_
                              refine RL.move rfl ?_
                              refine RL.bldC (vs := [(0, .int .i64 (1)), (3, .int .i64 (top t.st))]) (cells := (⟨1, 0, 0, top t.st, 0⟩ : Ev).cells) rfl rfl (fun w => by kernel_rfl) ?_
                              refine RL.move rfl ?_
                              refine RL.stA (l := (⟨0, 0, 0, 0, 0⟩ : Ev).cells) rfl rfl ag30.size rfl rfl (Ev.len _) (Ev.len ⟨0, 0, 0, 0, 0⟩) (Ev.one _) ?_
                              refine RL.assign rfl ?_
                              refine RL.nil ?_
                              have epc : ((t.pc : Int) + 1) - 1 = (t.pc : Int) := by omega
                              rw [epc]
                              refine X.ret ?_
                              refine retcA2 rfl ag30 rfl (Ev.len _) ?_
                              rw [← hrun, runN_stop hx.ins hst]
                              exact ⟨rfl, A5, cp5, Lr5, hr5, List.Sublist.append (List.Sublist.refl _) (.cons_cons _ (List.nil_sublist _))⟩
  · refine Ctr.intro (n := 271) Try.func15 rfl Try.ntmps15 (Nat.le_of_ble_eq_true rfl) hown hnd ?_
    refine X.seq ?_
    refine X.region rfl ?_
    refine RL.alloc rfl rfl zt30 ?_
    intro b6 hb6
    dsimp only at hb6
    refine RL.assign rfl ?_
    refine RL.nil ?_
    refine X.seq ?_
    refine X.seq ?_
    refine X.region rfl ?_
    refine RL.move rfl ?_
    refine RL.nilCheck rfl rfl ?_
    refine RL.fieldAddr rfl fd46_5 rfl ?_
    refine RL.loadO rfl sc4 rfl rfl ?_
    refine RL.nil ?_
    refine X.cond_t rfl ?_
    refine X.seq ?_
    refine X.region rfl ?_
    refine RL.bldC (vs := [(0, .int .i64 5), (4, .int .i64 12)]) (cells := (⟨5, 0, 0, 0, 12⟩ : Ev).cells) rfl rfl (fun w => by kernel_rfl) ?_
    refine RL.move rfl ?_
    refine RL.stA (l := (⟨0, 0, 0, 0, 0⟩ : Ev).cells) rfl rfl ag30.size rfl rfl (Ev.len _) (Ev.len ⟨0, 0, 0, 0, 0⟩) (Ev.one _) ?_
    refine RL.assign rfl ?_
    refine RL.nil ?_
    refine X.ret ?_
    refine retcA2 rfl ag30 rfl (Ev.len _) ?_
    rw [nextP_over rfl]
    exact ⟨rfl, A2, cp2, Lr, hrow, (by repeat (first | exact List.Sublist.refl _ | exact List.nil_sublist _ | (rw [List.append_nil]; exact List.Sublist.refl _) | exact List.sublist_append_left _ _ | exact (List.sublist_append_left _ _).trans (List.sublist_append_left _ _) | apply List.Sublist.cons_cons | apply List.Sublist.cons | refine List.Sublist.trans ?_ (List.sublist_append_right _ _)))⟩
end Go.Proofs.Ytekepfpkihnodaa

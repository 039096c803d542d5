/- The reader reads a module, and gives no panic on. -/
import Derived.Test.YtnebpklmbefmfaaD1
import Derived.Test.YtnebpklmbefmfaaDefer
set_option linter.unusedVariables false
set_option linter.unusedSimpArgs false
namespace Go.Proofs.Ytnebpklmbefmfaa
open Go.RowKit
attribute [local irreducible] X RL W Ctr
theorem zt114 : ZeroT Try.prog 114 [] := ZeroT.mk' (v := .agg #[]) (by kernel_rfl) rfl
theorem sz114 (w : World) : (sizeOf 114).run Try.prog w = .ok 0 w := size_of_info (by kernel_rfl) w
theorem f_readP (b2 b3 : Nat) (hne : b2 ≠ b3) (Vm : Value) (q : Bool) (w : World) (hown : ∀ p ∈ [(b2, cel 30 [Vm]), (b3, cel 4 [.bool q])], w.heap[p.1]? = some p.2) :
    DCtr Try.prog 47 [.pointer (some ⟨b2, 0, none⟩), .pointer (some ⟨b3, 0, none⟩)] (.panicking shortCh) (.panicking [{ v := shortV, recovered := true }]) w [(b2, cel 30 [Vm]), (b3, cel 4 [.bool q])] fun L => (b2, cel 30 [.slice none 0 0]) ∈ L ∧ (b3, cel 4 [.bool false]) ∈ L := by
 refine DCtr.intro (n := 17) (v := shortV) Try.func47 rfl rfl Try.ntmps47 (Nat.le_of_ble_eq_true rfl) (by decide) (rec_panicking shortV []) hown (by simp [keys, hne]) ?_
 refine X.seq ?_
 refine X.region rfl ?_
 refine RL.move rfl ?_
 refine RL.neIfc (b := true) rfl rfl rfl (fun w => rfl) (fun w => by kernel_rfl) ?_
 refine RL.nil ?_
 refine X.cond_t rfl ?_
 refine X.seq ?_
 refine X.seq ?_
 refine X.region rfl ?_
 refine RL.move rfl ?_
 refine RL.assertC (r := .tuple #[.agg #[], .bool true]) rfl rfl (fun w => by kernel_rfl) ?_
 refine RL.move rfl ?_
 refine RL.extract rfl rfl rfl ?_
 refine RL.extract rfl rfl rfl ?_
 refine RL.alloc rfl rfl zt114 ?_
 intro b5 hb5
 dsimp only at hb5
 refine RL.stA (l := []) (ls := []) rfl rfl sz114 rfl rfl rfl rfl (by simp) ?_
 refine RL.assign rfl ?_
 refine RL.nil ?_
 refine X.seq ?_
 refine X.region rfl ?_
 refine RL.move rfl ?_
 refine RL.not rfl rfl ?_
 refine RL.nil ?_
 refine X.cond_f rfl ?_
 refine X.skip ?_
 refine X.region rfl ?_
 refine RL.bldC (vs := []) (cells := [.slice none 0 0]) rfl rfl (fun w => by kernel_rfl) ?_
 refine RL.stA rfl rfl ag30.size rfl rfl rfl rfl (by simp [Value.oneCell']) ?_
 refine RL.stB rfl rfl sc4.size rfl rfl (by first | exact Nat.zero_lt_one | decide | simp) ?_
 refine RL.nil ?_
 exact X.nil (shut_end ⟨by simp, by simp⟩)
theorem f_readI (b2 b3 : Nat) (hne : b2 ≠ b3) (Vm : Value) (q : Bool) (w : World) (hown : ∀ p ∈ [(b2, cel 30 [Vm]), (b3, cel 4 [.bool q])], w.heap[p.1]? = some p.2) :
    DCtr Try.prog 47 [.pointer (some ⟨b2, 0, none⟩), .pointer (some ⟨b3, 0, none⟩)] .returning .returning w [(b2, cel 30 [Vm]), (b3, cel 4 [.bool q])] fun L => L = [(b2, cel 30 [Vm]), (b3, cel 4 [.bool q])] := by
 refine DCtr.intro (n := 17) (v := .nilIface) Try.func47 rfl rfl Try.ntmps47 (Nat.le_of_ble_eq_true rfl) (by decide) rec_idle hown (by simp [keys, hne]) ?_
 refine X.seq ?_
 refine X.region rfl ?_
 refine RL.move rfl ?_
 refine RL.neIfc (b := false) rfl rfl rfl (fun w => rfl) (fun w => by kernel_rfl) ?_
 refine RL.nil ?_
 refine X.cond_f rfl ?_
 refine X.skip ?_
 exact X.nil (shut_end rfl)
theorem Src.st0 {w0 w : World} {sb : Nat} {A : Option Addr} {cp : Nat} {r : List Int} {L : List Ent} (h : Src w0 sb A cp r) (hst : St w0 [] w L) : Src w sb A cp r :=
  ⟨h.rd.stN hst (fun b o he => by simp), h.cap, h.nb, h.len, h.byt⟩
theorem Src.fresh {w : World} {sb : Nat} {A : Option Addr} {cp : Nat} {r : List Int} (hrd : Rd w A (gcells r)) (h0 : 0 < r.length) (hcap : r.length ≤ cp) (hlen : r.length ≤ 1000000) (hb : Byt r) (hs : w.heap.size ≤ sb) : Src w sb A cp r := by
  refine ⟨hrd, hcap, fun a ha => ?_, hlen, hb⟩
  obtain ⟨b, o, h1, h2⟩ := hrd
  have h3 := h1 (by rw [gcells_len]; exact h0)
  rw [h3, Option.some.injEq] at ha
  subst ha
  have := Rd.lt h2 (by rw [gcells_len]; exact h0)
  show b ≠ sb
  omega
theorem ClO.len {cl : Cl} {cs : List Value} {L : List Ent} (h : ClO cl cs L) : cs.length = 19 := by
  obtain ⟨h1, h2, Af, cf, Am, cm, ms, Lf, Lm, Ls, rfl, -⟩ := h
  exact clCells_len h1
theorem ClO.one {cl : Cl} {cs : List Value} {L : List Ent} (h : ClO cl cs L) : ∀ u ∈ cs, u.oneCell' = true := by
  obtain ⟨h1, h2, Af, cf, Am, cm, ms, Lf, Lm, Ls, rfl, -⟩ := h
  exact clCells_one
theorem CtrP.sub {P : Program} {f : FuncId} {args : List Value} {w : World} {Lp : List Ent} {R : Value → List Ent → Prop} {N : Prop} (h : CtrP P f args w Lp (fun v L => ∃ L1 L2 : List Ent, L1.Sublist L ∧ L1.Perm L2 ∧ R v L2) N) : CtrP P f args w Lp R N :=
  CallsIn.mono h fun _ _ he => he.imp (fun ⟨v, L', h1, h2, L1, L2, h3, h4, h5⟩ => ⟨v, L2, h1, (h2.sub h3).perm h4.symm, h5⟩) id
theorem f_sclassC (r : List Int) (A : Option Addr) (cp sb : Nat) (w : World) (hsrc : Src w sb A cp r) (hown : ∀ p ∈ [srcE sb A cp r], w.heap[p.1]? = some p.2) :
    CtrP Try.prog 49 [.pointer (some ⟨sb, 0, none⟩)] w [srcE sb A cp r] (fun v L => ∃ cl cs A' cp' r' Lo, pClass r = some (cl, r') ∧ v = .agg cs.toArray ∧ ClO cl cs Lo ∧ Nxt A cp r A' cp' r' ∧ L = [srcE sb A' cp' r'] ++ Lo) (pClass r = none) :=
  CtrP.sub ((f_sclass r A cp sb w hsrc hown).mono (fun v L ⟨cl, cs, A', cp', r', Lo, h1, h2, h3, h4, L1, h5, h6⟩ => ⟨L1, _, h5, h6, cl, cs, A', cp', r', Lo, h1, h2, h3, h4, rfl⟩) id)
theorem rd_pan {w : World} {ρ : Env} {b2 b3 : Nat} {Vm : Value} {q : Bool} {L Lr : List Ent} {R : Value → List Ent → Prop} {fn : Func} (hr : fn.results = #[.cell 2 30, .cell 3 4]) (h2 : evE 22 ρ (.tmp 2) = .pointer (some ⟨b2, 0, none⟩)) (h3 : evE 22 ρ (.tmp 3) = .pointer (some ⟨b3, 0, none⟩)) (hL : L.Perm ([(b2, cel 30 [Vm]), (b3, cel 4 [.bool q])] ++ Lr)) (hR : ∀ L, R (.tuple #[.agg #[.slice none 0 0], .bool false]) L) : RetQ ⟨Try.prog, none, 22, w, [], false⟩ fn R (.panic shortCh) ρ [{ target := .fn (.func 47) [.pointer (some ⟨b2, 0, none⟩), .pointer (some ⟨b3, 0, none⟩)].toArray, args := #[] }] L := by
  intro w1 hw1
  have hne : b2 ≠ b3 := by
    have := (hw1.perm hL.symm).nodup
    simp at this
    exact this.1.1
  exact leave_d hw1 (by simp) rfl en47 hL (fun w2 hw2 => f_readP b2 b3 hne Vm q w2 (fun p hp => hw2.own p (List.mem_append_left _ hp))) (fun L' ⟨m2, m3⟩ => ⟨_, fun w3 hw3 => rescAB (l := [.slice none 0 0]) hr h2 h3 ag30 sc4 hw3 (List.mem_append_left _ m2) (List.mem_append_left _ m3) rfl, hR _⟩)
theorem rd_ret {w : World} {ρ : Env} {b2 b3 : Nat} {Vm : Value} {q : Bool} {L Lr : List Ent} {R : Value → List Ent → Prop} {fn : Func} (hr : fn.results = #[.cell 2 30, .cell 3 4]) (h2 : evE 22 ρ (.tmp 2) = .pointer (some ⟨b2, 0, none⟩)) (h3 : evE 22 ρ (.tmp 3) = .pointer (some ⟨b3, 0, none⟩)) (hL : L.Perm ([(b2, cel 30 [Vm]), (b3, cel 4 [.bool q])] ++ Lr)) (hR : R (.tuple #[.agg #[Vm], .bool q]) ([(b2, cel 30 [Vm]), (b3, cel 4 [.bool q])] ++ Lr)) : RetQ ⟨Try.prog, none, 22, w, [], false⟩ fn R .ret ρ [{ target := .fn (.func 47) [.pointer (some ⟨b2, 0, none⟩), .pointer (some ⟨b3, 0, none⟩)].toArray, args := #[] }] L := by
  intro w1 hw1
  have hne : b2 ≠ b3 := by
    have := (hw1.perm hL.symm).nodup
    simp at this
    exact this.1.1
  refine leave_d hw1 (by simp) rfl en47 hL (fun w2 hw2 => f_readI b2 b3 hne Vm q w2 (fun p hp => hw2.own p (List.mem_append_left _ hp))) ?_
  rintro L' rfl
  exact ⟨_, fun w3 hw3 => rescAB (l := [Vm]) hr h2 h3 ag30 sc4 hw3 (.head _) (.tail _ (.head _)) rfl, hR⟩
theorem f_read (r : List Int) (A : Option Addr) (cp : Nat) (w : World) (hrd : Rd w A (gcells r)) (hcap : r.length ≤ cp) (hlen : r.length ≤ 1000000) (hbyt : Byt r) :
    Ctr Try.prog 40 [.slice A r.length cp] w [] fun v L => (∃ m Am cm Lm, pMod r = some m ∧ v = .tuple #[.agg #[.slice Am m.length cm], .bool true] ∧ ModO m Am cm Lm ∧ Lm.Sublist L) ∨ (pMod r = none ∧ v = .tuple #[.agg #[.slice none 0 0], .bool false]) := by
 refine Ctr.intro0 (n := 22) Try.func40 rfl Try.ntmps40 (Nat.le_of_ble_eq_true rfl) ?_
 refine X.seq ?_
 refine X.region rfl ?_
 refine RL.alloc rfl rfl zt30 ?_
 intro b2 hb2
 dsimp only at hb2
 refine RL.alloc rfl rfl zt4 ?_
 intro b3 hb3
 dsimp only at hb3
 refine RL.nil ?_
 refine X.seq ?_
 refine X.region rfl ?_
 refine RL.makeFunc rfl rfl rfl ?_
 refine RL.deferF rfl rfl rfl rfl ?_
 refine RL.nil ?_
 refine X.seq ?_
 refine X.region rfl ?_
 refine RL.move rfl ?_
 refine RL.bldC (vs := [(0, .slice A r.length cp)]) (cells := [.slice A r.length cp]) rfl rfl (fun w => by kernel_rfl) ?_
 refine RL.boxA rfl rfl rfl ?_
 intro sb hsb
 dsimp only at hsb
 refine RL.assign rfl ?_
 refine RL.nil ?_
 refine X.seq ?_
 refine X.seq ?_
 refine X.region rfl ?_
 refine RL.move rfl ?_
 refine RL.perm (L' := [] ++ [(b2, cel 30 [.slice none 0 0]), (b3, cel 4 [.bool false]), srcE sb A cp r]) rfl (show List.Perm _ [srcE sb A cp r, (b3, cel 4 [.bool false]), (b2, cel 30 [.slice none 0 0])] from (by classical exact List.perm_iff_count.2 (fun z => by simp only [List.count_append, List.count_cons, List.count_nil, List.cons_append, List.nil_append, List.set_cons_zero, List.set_cons_succ] <;> omega))) ?_
 have nx0 : Nxt A cp r A cp r := Nxt.refl hcap
 rcases r with _ | ⟨nc, r1⟩
 ·exact RL.fnP (Lp := [srcE sb A cp []]) (Lr := [(b2, cel 30 [.slice none 0 0]), (b3, cel 4 [.bool false])]) rfl rfl rfl en48 (by classical exact List.perm_iff_count.2 (fun z => by simp only [List.count_append, List.count_cons, List.count_nil, List.cons_append, List.nil_append, List.set_cons_zero, List.set_cons_succ] <;> omega)) (fun w1 hw1 => f_scountX [] A cp sb hcap hlen w1 rfl (fun p hp => hw1.own p (List.mem_append_left _ hp))) rfl (fun _ => by rw [xit_panic]; exact rd_pan (Vm := .slice none 0 0) (q := false) (Lr := []) rfl rfl rfl (by classical exact List.perm_iff_count.2 (fun z => by simp only [List.count_append, List.count_cons, List.count_nil, List.cons_append, List.nil_append, List.set_cons_zero, List.set_cons_succ] <;> omega)) (fun L => .inr ⟨rfl, rfl⟩)) (fun v L h => h.elim)
 have hsrc := Src.fresh hrd (by simp) hcap hlen hbyt hsb
 obtain ⟨hnc0, hnc1⟩ := hsrc.byt nc (by simp)
 refine RL.fn (Lp := [srcE sb A cp (nc :: r1)]) (Lr := [(b2, cel 30 [.slice none 0 0]), (b3, cel 4 [.bool false])]) rfl rfl rfl en48 (by classical exact List.perm_iff_count.2 (fun z => by simp only [List.count_append, List.count_cons, List.count_nil, List.cons_append, List.nil_append, List.set_cons_zero, List.set_cons_succ] <;> omega)) (fun w1 hw1 => f_scount nc (hsrc.byt nc (by simp)) r1 A cp sb hsrc.cap hsrc.len w1 ((hsrc.st0 hw1).rd) hsrc.nb (fun p hp => hw1.own p (List.mem_append_left _ hp))) rfl ?_
 rintro _ _ ⟨rfl, rfl⟩
 obtain ⟨A1, cp1, nx1, eA1⟩ : ∃ a b, ∃ _ : Nxt A cp (nc :: r1) a b r1, srcE sb (cutA A cp 1) (cp - 1) r1 = srcE sb a b r1 := ⟨_, _, nx0.trans (Nxt.cut (n := 1) (r := nc :: r1) (by simp) hcap), rfl⟩
 rw [eA1]
 have hs1 := hsrc.nxt nx1
 have hC1 : pMod (nc :: r1) = (pN pClass nc.toNat r1).map (·.1) := rfl
 refine RL.perm (L' := [] ++ ([] ++ [(b2, cel 30 [.slice none 0 0]), (b3, cel 4 [.bool false]), srcE sb A1 cp1 r1])) rfl (by classical exact List.perm_iff_count.2 (fun z => by simp only [List.count_append, List.count_cons, List.count_nil, List.cons_append, List.nil_append, List.set_cons_zero, List.set_cons_succ] <;> omega)) ?_
 refine RL.move rfl ?_
 refine RL.nil ?_
 refine X.block ?_
 refine X.loop (γ := Nat) (fun g ρ L => ∃ ls : List Cl, ∃ r3 : List Int, ∃ Am : Option Addr, ∃ cm : Nat, ∃ css : List (List Value), ∃ Lm : List Ent, ∃ Ls : List Ent, ∃ A3 : Option Addr, ∃ cp3 : Nat, (g ≤ nc.toNat) ∧ (pN pClass g r1 = some (ls, r3)) ∧ (Row 69 19 (.slice Am (ls).length cm) (css.flatten) Lm) ∧ (ClsO ls css Ls) ∧ (Nxt A cp (nc :: r1) A3 cp3 r3) ∧ Has ρ [(2, .pointer (some ⟨b2, 0, none⟩)), (3, .pointer (some ⟨b3, 0, none⟩)), (4, .pointer (some ⟨sb, 0, none⟩)), (10, .int .i64 nc), (11, .int .i64 g)] ∧ L = Lm ++ (Ls ++ [(b2, cel 30 [.slice Am (ls).length cm]), (b3, cel 4 [.bool false]), srcE sb A3 cp3 r3])) (fun g => nc.toNat - g) (0) ⟨_, (by repeat (first | exact sb0 _ | exact sb1 _ | (rw [List.append_nil]; exact sb0 _) | exact sb2 _ _ | exact sb3 _ _ _ | apply sb4 | apply sb5 | apply sb6)), [], r1, none, 0, [], [], [], A1, cp1, Nat.zero_le _, rfl, Row.nil, ClsO.nil, nx1, ⟨rfl, rfl, rfl, rfl, rfl, trivial⟩, rfl⟩ ?_
 rintro g _ _ ⟨ls, r3, Am, cm, css, Lm, Ls, A3, cp3, hg, hpm, hrm, hco, nx3, hρ, rfl⟩
 obtain ⟨base, rfl⟩ := hρ.base
 clear hρ
 have hs3 := hsrc.nxt nx3
 have hml := pN_len hpm
 refine X.seq ?_
 refine X.region rfl ?_
 refine RL.cmp_s rfl rfl rfl rfl (fun hlt => ?_) (fun hlt => ?_)
 ·replace hlt : (_ : Int) < _ := hlt
  have hgn : g < nc.toNat := by omega
  have hbad : pClass r3 = none → pMod (nc :: r1) = none := fun hx => by rw [hC1, pN_fail hgn hpm hx]; rfl
  refine RL.nil ?_
  refine X.seq ?_
  refine X.cond_t rfl ?_
  refine X.skip ?_
  refine X.seq ?_
  refine X.block ?_
  refine X.set [.val (.pointer (some ⟨b2, 0 + 0, none⟩)), .val (.slice Am (ls).length cm), .val (.pointer (some ⟨sb, 0, none⟩)), .any, .any, .any, .val (.pointer (some ⟨b2, 0 + 0, none⟩)), .any] [[], [0], [], [2], [2, 3], [0, 1, 2, 3, 4], [0, 1, 2, 3, 4, 5], [0, 1, 2, 3, 4, 5, 6]] (fun D ρ L => (D 3 = false ∧ D 4 = false ∧ D 5 = false ∧ D 7 = false ∧ True ∧ Has ρ [] ∧ L.Perm ((Lm) ++ ((Ls) ++ (([]) ++ (([(b2, cel 30 [.slice Am (ls).length cm])]) ++ (([(b3, cel 4 [.bool false])]) ++ ([srcE sb A3 cp3 r3]))))))) ∨ (D 3 = true ∧ D 4 = false ∧ D 5 = false ∧ D 7 = false ∧ True ∧ ∃ cl : Cl, ∃ cs : List Value, ∃ A4 : Option Addr, ∃ cp4 : Nat, ∃ r4 : List Int, ∃ Lo : List Ent, (pClass r3 = some (cl, r4)) ∧ (ClO cl cs Lo) ∧ (Nxt A3 cp3 r3 A4 cp4 r4) ∧ Has ρ [(16, .agg cs.toArray)] ∧ L.Perm ((Lm) ++ ((Ls) ++ ((Lo) ++ (([(b2, cel 30 [.slice Am (ls).length cm])]) ++ (([(b3, cel 4 [.bool false])]) ++ ([srcE sb A4 cp4 r4]))))))) ∨ (D 3 = true ∧ D 4 = true ∧ D 5 = false ∧ D 7 = false ∧ True ∧ ∃ cl : Cl, ∃ cs : List Value, ∃ A4 : Option Addr, ∃ cp4 : Nat, ∃ r4 : List Int, ∃ Lo : List Ent, ∃ bb17 : Nat, (pClass r3 = some (cl, r4)) ∧ (ClO cl cs Lo) ∧ (Nxt A3 cp3 r3 A4 cp4 r4) ∧ Has ρ [(16, .agg cs.toArray), (17, .slice (some ⟨bb17, 0, none⟩) 1 1)] ∧ L.Perm ((Lm) ++ ((Ls) ++ ((Lo) ++ (([(b2, cel 30 [.slice Am (ls).length cm])]) ++ (([(b3, cel 4 [.bool false])]) ++ (([srcE sb A4 cp4 r4]) ++ ([(bb17, cel 69 cs)])))))))) ∨ (D 3 = true ∧ D 4 = true ∧ D 5 = true ∧ D 7 = false ∧ True ∧ ∃ cl : Cl, ∃ cs : List Value, ∃ A4 : Option Addr, ∃ cp4 : Nat, ∃ r4 : List Int, ∃ Lo : List Ent, ∃ bb17 : Nat, ∃ A18 : Option Addr, ∃ cp18 : Nat, ∃ Lr18 : List Ent, (pClass r3 = some (cl, r4)) ∧ (ClO cl cs Lo) ∧ (Nxt A3 cp3 r3 A4 cp4 r4) ∧ (Row 69 19 (.slice A18 (ls ++ [cl]).length cp18) ((css ++ [cs]).flatten) Lr18) ∧ Has ρ [(16, .agg cs.toArray), (17, .slice (some ⟨bb17, 0, none⟩) 1 1), (18, .slice A18 (ls ++ [cl]).length cp18)] ∧ L.Perm ((Lr18) ++ ((Ls) ++ ((Lo) ++ (([(b2, cel 30 [.slice Am (ls).length cm])]) ++ (([(b3, cel 4 [.bool false])]) ++ (([srcE sb A4 cp4 r4]) ++ ([(bb17, cel 69 cs)])))))))) ∨ (D 3 = true ∧ D 4 = true ∧ D 5 = true ∧ D 7 = true ∧ True ∧ ∃ cl : Cl, ∃ cs : List Value, ∃ A4 : Option Addr, ∃ cp4 : Nat, ∃ r4 : List Int, ∃ Lo : List Ent, ∃ bb17 : Nat, ∃ A18 : Option Addr, ∃ cp18 : Nat, ∃ Lr18 : List Ent, (pClass r3 = some (cl, r4)) ∧ (ClO cl cs Lo) ∧ (Nxt A3 cp3 r3 A4 cp4 r4) ∧ (Row 69 19 (.slice A18 (ls ++ [cl]).length cp18) ((css ++ [cs]).flatten) Lr18) ∧ Has ρ [(16, .agg cs.toArray), (17, .slice (some ⟨bb17, 0, none⟩) 1 1), (18, .slice A18 (ls ++ [cl]).length cp18)] ∧ L.Perm ((Lr18) ++ ((Ls) ++ ((Lo) ++ (([(b2, cel 30 [.slice A18 (ls ++ [cl]).length cp18])]) ++ (([(b3, cel 4 [.bool false])]) ++ (([srcE sb A4 cp4 r4]) ++ ([(bb17, cel 69 cs)]))))))))) rfl (by kernel_rfl) (by kernel_rfl) (by kernel_rfl) (by kernel_rfl) (fun D hD => .inl ⟨hD 3, hD 4, hD 5, hD 7, trivial, trivial, (List.Perm.refl _)⟩) ⟨?_, ?_, ?_, ?_, ?_, ?_, ?_, ?_, trivial⟩ ?_
  ·intro ρ L D hS
   rcases hS.sp with ⟨e3, e4, e5, e7, -, hρ, hL⟩ | ⟨e3, e4, e5, e7, -, cl, cs, A4, cp4, r4, Lo, hp0, hp1, hp2, hρ, hL⟩ | ⟨e3, e4, e5, e7, -, cl, cs, A4, cp4, r4, Lo, bb17, hp0, hp1, hp2, hρ, hL⟩ | ⟨e3, e4, e5, e7, -, cl, cs, A4, cp4, r4, Lo, bb17, A18, cp18, Lr18, hp0, hp1, hp2, hp3, hρ, hL⟩ | ⟨e3, e4, e5, e7, -, cl, cs, A4, cp4, r4, Lo, bb17, A18, cp18, Lr18, hp0, hp1, hp2, hp3, hρ, hL⟩
   ·have u2 : ρ 2 = .pointer (some ⟨b2, 0, none⟩) := hS.fix 2 (by decide)
    clear hS hρ
    obtain ⟨base, rfl⟩ := Has.base (ρ := ρ) (l := [(2, .pointer (some ⟨b2, 0, none⟩))]) ⟨u2, trivial⟩
    clear u2
    refine RL.perm rfl hL.symm ?_
    clear hL
    refine RL.fieldAddr rfl fd30_0 rfl ?_
    refine RL.nil ?_
    exact ⟨rfl, ⟨_, rfl, rfl⟩, .inl ⟨e3, e4, e5, e7, trivial, trivial, List.Perm.refl _⟩⟩
   ·have u2 : ρ 2 = .pointer (some ⟨b2, 0, none⟩) := hS.fix 2 (by decide)
    have u16 : ρ 16 = .agg cs.toArray := hρ.1
    clear hS hρ
    obtain ⟨base, rfl⟩ := Has.base (ρ := ρ) (l := [(2, .pointer (some ⟨b2, 0, none⟩)), (16, .agg cs.toArray)]) ⟨u2, u16, trivial⟩
    clear u2 u16
    refine RL.perm rfl hL.symm ?_
    clear hL
    refine RL.fieldAddr rfl fd30_0 rfl ?_
    refine RL.nil ?_
    exact ⟨rfl, ⟨_, rfl, rfl⟩, .inr (.inl ⟨e3, e4, e5, e7, trivial, cl, cs, A4, cp4, r4, Lo, hp0, hp1, hp2, ⟨rfl, trivial⟩, List.Perm.refl _⟩)⟩
   ·have u2 : ρ 2 = .pointer (some ⟨b2, 0, none⟩) := hS.fix 2 (by decide)
    have u16 : ρ 16 = .agg cs.toArray := hρ.1
    have u17 : ρ 17 = .slice (some ⟨bb17, 0, none⟩) 1 1 := hρ.2.1
    clear hS hρ
    obtain ⟨base, rfl⟩ := Has.base (ρ := ρ) (l := [(2, .pointer (some ⟨b2, 0, none⟩)), (16, .agg cs.toArray), (17, .slice (some ⟨bb17, 0, none⟩) 1 1)]) ⟨u2, u16, u17, trivial⟩
    clear u2 u16 u17
    refine RL.perm rfl hL.symm ?_
    clear hL
    refine RL.fieldAddr rfl fd30_0 rfl ?_
    refine RL.nil ?_
    exact ⟨rfl, ⟨_, rfl, rfl⟩, .inr (.inr (.inl ⟨e3, e4, e5, e7, trivial, cl, cs, A4, cp4, r4, Lo, bb17, hp0, hp1, hp2, ⟨rfl, rfl, trivial⟩, List.Perm.refl _⟩))⟩
   ·exact hS.hi 5 rfl (by kernel_rfl) e5
   exact hS.hi 5 rfl (by kernel_rfl) e5
  ·intro ρ L D hS
   rcases hS.sp with ⟨e3, e4, e5, e7, -, hρ, hL⟩ | ⟨e3, e4, e5, e7, -, cl, cs, A4, cp4, r4, Lo, hp0, hp1, hp2, hρ, hL⟩ | ⟨e3, e4, e5, e7, -, cl, cs, A4, cp4, r4, Lo, bb17, hp0, hp1, hp2, hρ, hL⟩ | ⟨e3, e4, e5, e7, -, cl, cs, A4, cp4, r4, Lo, bb17, A18, cp18, Lr18, hp0, hp1, hp2, hp3, hρ, hL⟩ | ⟨e3, e4, e5, e7, -, cl, cs, A4, cp4, r4, Lo, bb17, A18, cp18, Lr18, hp0, hp1, hp2, hp3, hρ, hL⟩
   ·have u13 : ρ 13 = .pointer (some ⟨b2, 0 + 0, none⟩) := hS.dep ⟨0, Ground.data⟩ (by simp) rfl _ _ rfl rfl
    clear hS hρ
    obtain ⟨base, rfl⟩ := Has.base (ρ := ρ) (l := [(13, .pointer (some ⟨b2, 0 + 0, none⟩))]) ⟨u13, trivial⟩
    clear u13
    refine RL.perm rfl hL.symm ?_
    clear hL
    refine RL.loadO rfl sc28 rfl rfl ?_
    refine RL.nil ?_
    exact ⟨rfl, ⟨_, rfl, rfl⟩, .inl ⟨e3, e4, e5, e7, trivial, trivial, List.Perm.refl _⟩⟩
   ·have u13 : ρ 13 = .pointer (some ⟨b2, 0 + 0, none⟩) := hS.dep ⟨0, Ground.data⟩ (by simp) rfl _ _ rfl rfl
    have u16 : ρ 16 = .agg cs.toArray := hρ.1
    clear hS hρ
    obtain ⟨base, rfl⟩ := Has.base (ρ := ρ) (l := [(13, .pointer (some ⟨b2, 0 + 0, none⟩)), (16, .agg cs.toArray)]) ⟨u13, u16, trivial⟩
    clear u13 u16
    refine RL.perm rfl hL.symm ?_
    clear hL
    refine RL.loadO rfl sc28 rfl rfl ?_
    refine RL.nil ?_
    exact ⟨rfl, ⟨_, rfl, rfl⟩, .inr (.inl ⟨e3, e4, e5, e7, trivial, cl, cs, A4, cp4, r4, Lo, hp0, hp1, hp2, ⟨rfl, trivial⟩, List.Perm.refl _⟩)⟩
   ·have u13 : ρ 13 = .pointer (some ⟨b2, 0 + 0, none⟩) := hS.dep ⟨0, Ground.data⟩ (by simp) rfl _ _ rfl rfl
    have u16 : ρ 16 = .agg cs.toArray := hρ.1
    have u17 : ρ 17 = .slice (some ⟨bb17, 0, none⟩) 1 1 := hρ.2.1
    clear hS hρ
    obtain ⟨base, rfl⟩ := Has.base (ρ := ρ) (l := [(13, .pointer (some ⟨b2, 0 + 0, none⟩)), (16, .agg cs.toArray), (17, .slice (some ⟨bb17, 0, none⟩) 1 1)]) ⟨u13, u16, u17, trivial⟩
    clear u13 u16 u17
    refine RL.perm rfl hL.symm ?_
    clear hL
    refine RL.loadO rfl sc28 rfl rfl ?_
    refine RL.nil ?_
    exact ⟨rfl, ⟨_, rfl, rfl⟩, .inr (.inr (.inl ⟨e3, e4, e5, e7, trivial, cl, cs, A4, cp4, r4, Lo, bb17, hp0, hp1, hp2, ⟨rfl, rfl, trivial⟩, List.Perm.refl _⟩))⟩
   ·exact hS.hi 5 rfl (by kernel_rfl) e5
   exact hS.hi 5 rfl (by kernel_rfl) e5
  ·intro ρ L D hS
   rcases hS.sp with ⟨e3, e4, e5, e7, -, hρ, hL⟩ | ⟨e3, e4, e5, e7, -, cl, cs, A4, cp4, r4, Lo, hp0, hp1, hp2, hρ, hL⟩ | ⟨e3, e4, e5, e7, -, cl, cs, A4, cp4, r4, Lo, bb17, hp0, hp1, hp2, hρ, hL⟩ | ⟨e3, e4, e5, e7, -, cl, cs, A4, cp4, r4, Lo, bb17, A18, cp18, Lr18, hp0, hp1, hp2, hp3, hρ, hL⟩ | ⟨e3, e4, e5, e7, -, cl, cs, A4, cp4, r4, Lo, bb17, A18, cp18, Lr18, hp0, hp1, hp2, hp3, hρ, hL⟩
   ·have u4 : ρ 4 = .pointer (some ⟨sb, 0, none⟩) := hS.fix 4 (by decide)
    clear hS hρ
    obtain ⟨base, rfl⟩ := Has.base (ρ := ρ) (l := [(4, .pointer (some ⟨sb, 0, none⟩))]) ⟨u4, trivial⟩
    clear u4
    refine RL.perm rfl hL.symm ?_
    clear hL
    refine RL.move rfl ?_
    refine RL.nil ?_
    exact ⟨rfl, ⟨_, rfl, rfl⟩, .inl ⟨e3, e4, e5, e7, trivial, trivial, List.Perm.refl _⟩⟩
   ·exact hS.hi 3 rfl (by kernel_rfl) e3
   ·exact hS.hi 3 rfl (by kernel_rfl) e3
   ·exact hS.hi 3 rfl (by kernel_rfl) e3
   exact hS.hi 3 rfl (by kernel_rfl) e3
  ·intro ρ L D hS
   rcases hS.sp with ⟨e3, e4, e5, e7, -, hρ, hL⟩ | ⟨e3, e4, e5, e7, -, cl, cs, A4, cp4, r4, Lo, hp0, hp1, hp2, hρ, hL⟩ | ⟨e3, e4, e5, e7, -, cl, cs, A4, cp4, r4, Lo, bb17, hp0, hp1, hp2, hρ, hL⟩ | ⟨e3, e4, e5, e7, -, cl, cs, A4, cp4, r4, Lo, bb17, A18, cp18, Lr18, hp0, hp1, hp2, hp3, hρ, hL⟩ | ⟨e3, e4, e5, e7, -, cl, cs, A4, cp4, r4, Lo, bb17, A18, cp18, Lr18, hp0, hp1, hp2, hp3, hρ, hL⟩
   ·have u2 : ρ 2 = .pointer (some ⟨b2, 0, none⟩) := hS.fix 2 (by decide)
    have u3 : ρ 3 = .pointer (some ⟨b3, 0, none⟩) := hS.fix 3 (by decide)
    have u15 : ρ 15 = .pointer (some ⟨sb, 0, none⟩) := hS.dep ⟨2, Ground.data⟩ (by simp) rfl _ _ rfl rfl
    clear hS hρ
    obtain ⟨base, rfl⟩ := Has.base (ρ := ρ) (l := [(2, .pointer (some ⟨b2, 0, none⟩)), (3, .pointer (some ⟨b3, 0, none⟩)), (15, .pointer (some ⟨sb, 0, none⟩))]) ⟨u2, u3, u15, trivial⟩
    clear u2 u3 u15
    refine RL.perm rfl hL.symm ?_
    clear hL
    refine RL.fnP (Lp := [srcE sb A3 cp3 r3]) (Lr := Lm ++ (Ls ++ [(b2, cel 30 [.slice Am (ls).length cm]), (b3, cel 4 [.bool false])])) rfl rfl rfl en49 (by classical exact List.perm_iff_count.2 (fun z => by simp only [List.count_append, List.count_cons, List.count_nil, List.cons_append, List.nil_append, List.set_cons_zero, List.set_cons_succ] <;> omega)) (fun w1 hw1 => f_sclassC r3 A3 cp3 sb w1 (hs3.st0 hw1) (fun p hp => hw1.own p (List.mem_append_left _ hp))) rfl (fun hN => by rw [xit_panic]; exact rd_pan (Vm := .slice Am (ls).length cm) (q := false) (Lr := Lm ++ Ls) rfl rfl rfl (by classical exact List.perm_iff_count.2 (fun z => by simp only [List.count_append, List.count_cons, List.count_nil, List.cons_append, List.nil_append, List.set_cons_zero, List.set_cons_succ] <;> omega)) (fun L => .inr ⟨hbad hN, rfl⟩)) ?_
    rintro _ _ ⟨cl, cs, A4, cp4, r4, Lo, hq1, rfl, hq2, hq3, rfl⟩
    show RL _ _ _ _ _ (updO _ _ (.agg cs.toArray)) _ _
    refine RL.nil ?_
    exact ⟨rfl, ⟨_, rfl, trivial⟩, .inr (.inl ⟨rfl, e4, e5, e7, trivial, cl, cs, A4, cp4, r4, Lo, hq1, hq2, hq3, ⟨rfl, trivial⟩, (pmm fun _ _ z => by simp only [pm1, pm2, pm3, pm4, pm5, pm6, List.cons_append, List.nil_append] <;> omega)⟩)⟩
   ·exact hS.me e3
   ·exact hS.hi 4 rfl (by kernel_rfl) e4
   ·exact hS.hi 4 rfl (by kernel_rfl) e4
   exact hS.hi 4 rfl (by kernel_rfl) e4
  ·intro ρ L D hS
   rcases hS.sp with ⟨e3, e4, e5, e7, -, hρ, hL⟩ | ⟨e3, e4, e5, e7, -, cl, cs, A4, cp4, r4, Lo, hp0, hp1, hp2, hρ, hL⟩ | ⟨e3, e4, e5, e7, -, cl, cs, A4, cp4, r4, Lo, bb17, hp0, hp1, hp2, hρ, hL⟩ | ⟨e3, e4, e5, e7, -, cl, cs, A4, cp4, r4, Lo, bb17, A18, cp18, Lr18, hp0, hp1, hp2, hp3, hρ, hL⟩ | ⟨e3, e4, e5, e7, -, cl, cs, A4, cp4, r4, Lo, bb17, A18, cp18, Lr18, hp0, hp1, hp2, hp3, hρ, hL⟩
   ·exact hS.lo 3 (by kernel_rfl) e3
   ·have u16 : ρ 16 = .agg cs.toArray := hρ.1
    clear hS hρ
    obtain ⟨base, rfl⟩ := Has.base (ρ := ρ) (l := [(16, .agg cs.toArray)]) ⟨u16, trivial⟩
    clear u16
    refine RL.perm rfl hL.symm ?_
    clear hL
    refine RL.bs1A rfl rfl sl28 zt69 rfl hp1.len (by decide) ?_
    intro bb17 hbb17
    refine RL.nil ?_
    exact ⟨rfl, ⟨_, rfl, trivial⟩, .inr (.inr (.inl ⟨e3, rfl, e5, e7, trivial, cl, cs, A4, cp4, r4, Lo, bb17, hp0, hp1, hp2, ⟨rfl, rfl, trivial⟩, (pmm fun _ _ z => by simp only [pm1, pm2, pm3, pm4, pm5, pm6, List.cons_append, List.nil_append] <;> omega)⟩))⟩
   ·exact hS.me e4
   ·exact hS.hi 5 rfl (by kernel_rfl) e5
   exact hS.hi 5 rfl (by kernel_rfl) e5
  ·intro ρ L D hS
   rcases hS.sp with ⟨e3, e4, e5, e7, -, hρ, hL⟩ | ⟨e3, e4, e5, e7, -, cl, cs, A4, cp4, r4, Lo, hp0, hp1, hp2, hρ, hL⟩ | ⟨e3, e4, e5, e7, -, cl, cs, A4, cp4, r4, Lo, bb17, hp0, hp1, hp2, hρ, hL⟩ | ⟨e3, e4, e5, e7, -, cl, cs, A4, cp4, r4, Lo, bb17, A18, cp18, Lr18, hp0, hp1, hp2, hp3, hρ, hL⟩ | ⟨e3, e4, e5, e7, -, cl, cs, A4, cp4, r4, Lo, bb17, A18, cp18, Lr18, hp0, hp1, hp2, hp3, hρ, hL⟩
   ·exact hS.lo 3 (by kernel_rfl) e3
   ·exact hS.lo 4 (by kernel_rfl) e4
   ·have u14 : ρ 14 = .slice Am (ls).length cm := hS.dep ⟨1, Ground.data⟩ (by simp) rfl _ _ rfl rfl
    have u16 : ρ 16 = .agg cs.toArray := hρ.1
    have u17 : ρ 17 = .slice (some ⟨bb17, 0, none⟩) 1 1 := hρ.2.1
    clear hS hρ
    obtain ⟨base, rfl⟩ := Has.base (ρ := ρ) (l := [(14, .slice Am (ls).length cm), (16, .agg cs.toArray), (17, .slice (some ⟨bb17, 0, none⟩) 1 1)]) ⟨u14, u16, u17, trivial⟩
    clear u14 u16 u17
    refine RL.perm rfl hL.symm ?_
    clear hL
    refine RL.appB (Lr := Lm) (xs := css.flatten) (ys := cs) (N := (ls ++ [cl]).length) rfl rfl sl28 el_cl (by decide) (by decide) Try.underlying28 rfl hrm rfl (List.Perm.refl _) (by simp) hp1.len hp1.one (by omega) (by simp) ?_
    intro A18 cp18 Lr18 hr18
    rw [show css.flatten ++ cs = (css ++ [cs]).flatten by simp] at hr18
    refine RL.nil ?_
    exact ⟨rfl, ⟨_, rfl, trivial⟩, .inr (.inr (.inr (.inl ⟨e3, e4, rfl, e7, trivial, cl, cs, A4, cp4, r4, Lo, bb17, A18, cp18, Lr18, hp0, hp1, hp2, hr18, ⟨rfl, rfl, rfl, trivial⟩, (pmm fun _ _ z => by simp only [pm1, pm2, pm3, pm4, pm5, pm6, List.cons_append, List.nil_append] <;> omega)⟩)))⟩
   ·exact hS.me e5
   exact hS.hi 7 rfl (by kernel_rfl) e7
  ·intro ρ L D hS
   rcases hS.sp with ⟨e3, e4, e5, e7, -, hρ, hL⟩ | ⟨e3, e4, e5, e7, -, cl, cs, A4, cp4, r4, Lo, hp0, hp1, hp2, hρ, hL⟩ | ⟨e3, e4, e5, e7, -, cl, cs, A4, cp4, r4, Lo, bb17, hp0, hp1, hp2, hρ, hL⟩ | ⟨e3, e4, e5, e7, -, cl, cs, A4, cp4, r4, Lo, bb17, A18, cp18, Lr18, hp0, hp1, hp2, hp3, hρ, hL⟩ | ⟨e3, e4, e5, e7, -, cl, cs, A4, cp4, r4, Lo, bb17, A18, cp18, Lr18, hp0, hp1, hp2, hp3, hρ, hL⟩
   ·exact hS.lo 3 (by kernel_rfl) e3
   ·exact hS.lo 4 (by kernel_rfl) e4
   ·exact hS.lo 5 (by kernel_rfl) e5
   ·have u2 : ρ 2 = .pointer (some ⟨b2, 0, none⟩) := hS.fix 2 (by decide)
    have u16 : ρ 16 = .agg cs.toArray := hρ.1
    have u17 : ρ 17 = .slice (some ⟨bb17, 0, none⟩) 1 1 := hρ.2.1
    have u18 : ρ 18 = .slice A18 (ls ++ [cl]).length cp18 := hρ.2.2.1
    clear hS hρ
    obtain ⟨base, rfl⟩ := Has.base (ρ := ρ) (l := [(2, .pointer (some ⟨b2, 0, none⟩)), (16, .agg cs.toArray), (17, .slice (some ⟨bb17, 0, none⟩) 1 1), (18, .slice A18 (ls ++ [cl]).length cp18)]) ⟨u2, u16, u17, u18, trivial⟩
    clear u2 u16 u17 u18
    refine RL.perm rfl hL.symm ?_
    clear hL
    refine RL.fieldAddr rfl fd30_0 rfl ?_
    refine RL.nil ?_
    exact ⟨rfl, ⟨_, rfl, rfl⟩, .inr (.inr (.inr (.inl ⟨e3, e4, e5, e7, trivial, cl, cs, A4, cp4, r4, Lo, bb17, A18, cp18, Lr18, hp0, hp1, hp2, hp3, ⟨rfl, rfl, rfl, trivial⟩, List.Perm.refl _⟩)))⟩
   exact hS.hi 7 rfl (by kernel_rfl) e7
  ·intro ρ L D hS
   rcases hS.sp with ⟨e3, e4, e5, e7, -, hρ, hL⟩ | ⟨e3, e4, e5, e7, -, cl, cs, A4, cp4, r4, Lo, hp0, hp1, hp2, hρ, hL⟩ | ⟨e3, e4, e5, e7, -, cl, cs, A4, cp4, r4, Lo, bb17, hp0, hp1, hp2, hρ, hL⟩ | ⟨e3, e4, e5, e7, -, cl, cs, A4, cp4, r4, Lo, bb17, A18, cp18, Lr18, hp0, hp1, hp2, hp3, hρ, hL⟩ | ⟨e3, e4, e5, e7, -, cl, cs, A4, cp4, r4, Lo, bb17, A18, cp18, Lr18, hp0, hp1, hp2, hp3, hρ, hL⟩
   ·exact hS.lo 3 (by kernel_rfl) e3
   ·exact hS.lo 4 (by kernel_rfl) e4
   ·exact hS.lo 5 (by kernel_rfl) e5
   ·have u16 : ρ 16 = .agg cs.toArray := hρ.1
    have u17 : ρ 17 = .slice (some ⟨bb17, 0, none⟩) 1 1 := hρ.2.1
    have u18 : ρ 18 = .slice A18 (ls ++ [cl]).length cp18 := hρ.2.2.1
    have u19 : ρ 19 = .pointer (some ⟨b2, 0 + 0, none⟩) := hS.dep ⟨6, Ground.data⟩ (by simp) rfl _ _ rfl rfl
    clear hS hρ
    obtain ⟨base, rfl⟩ := Has.base (ρ := ρ) (l := [(16, .agg cs.toArray), (17, .slice (some ⟨bb17, 0, none⟩) 1 1), (18, .slice A18 (ls ++ [cl]).length cp18), (19, .pointer (some ⟨b2, 0 + 0, none⟩))]) ⟨u16, u17, u18, u19, trivial⟩
    clear u16 u17 u18 u19
    refine RL.perm rfl hL.symm ?_
    clear hL
    refine RL.stS rfl rfl sc28.size rfl rfl (by simp) ?_
    rw [show (0 + 0 : Nat) = 0 from rfl, List.set_cons_zero]
    refine RL.nil ?_
    exact ⟨rfl, ⟨_, rfl, trivial⟩, .inr (.inr (.inr (.inr (⟨e3, e4, e5, rfl, trivial, cl, cs, A4, cp4, r4, Lo, bb17, A18, cp18, Lr18, hp0, hp1, hp2, hp3, ⟨rfl, rfl, rfl, trivial⟩, (pmm fun _ _ z => by simp only [pm1, pm2, pm3, pm4, pm5, pm6, List.cons_append, List.nil_append] <;> omega)⟩))))⟩
   exact hS.me e7
  intro ρ L D hD hT hfix hsp
  rcases hsp with ⟨e3, e4, e5, e7, -, hρ, hL⟩ | ⟨e3, e4, e5, e7, -, cl, cs, A4, cp4, r4, Lo, hp0, hp1, hp2, hρ, hL⟩ | ⟨e3, e4, e5, e7, -, cl, cs, A4, cp4, r4, Lo, bb17, hp0, hp1, hp2, hρ, hL⟩ | ⟨e3, e4, e5, e7, -, cl, cs, A4, cp4, r4, Lo, bb17, A18, cp18, Lr18, hp0, hp1, hp2, hp3, hρ, hL⟩ | ⟨e3, e4, e5, e7, -, cl, cs, A4, cp4, r4, Lo, bb17, A18, cp18, Lr18, hp0, hp1, hp2, hp3, hρ, hL⟩
  ·exact done_no hD 3 rfl e3
  ·exact done_no hD 4 rfl e4
  ·exact done_no hD 5 rfl e5
  ·exact done_no hD 7 rfl e7
  have u2 : ρ 2 = .pointer (some ⟨b2, 0, none⟩) := hfix 2 (by decide)
  have u3 : ρ 3 = .pointer (some ⟨b3, 0, none⟩) := hfix 3 (by decide)
  have u4 : ρ 4 = .pointer (some ⟨sb, 0, none⟩) := hfix 4 (by decide)
  have u10 : ρ 10 = .int .i64 nc := hfix 10 (by decide)
  have u11 : ρ 11 = .int .i64 g := hfix 11 (by decide)
  have u16 : ρ 16 = .agg cs.toArray := hρ.1
  have u17 : ρ 17 = .slice (some ⟨bb17, 0, none⟩) 1 1 := hρ.2.1
  have u18 : ρ 18 = .slice A18 (ls ++ [cl]).length cp18 := hρ.2.2.1
  clear hT hfix hD hρ
  obtain ⟨base, rfl⟩ := Has.base (ρ := ρ) (l := [(2, .pointer (some ⟨b2, 0, none⟩)), (3, .pointer (some ⟨b3, 0, none⟩)), (4, .pointer (some ⟨sb, 0, none⟩)), (10, .int .i64 nc), (11, .int .i64 g), (16, .agg cs.toArray), (17, .slice (some ⟨bb17, 0, none⟩) 1 1), (18, .slice A18 (ls ++ [cl]).length cp18)]) ⟨u2, u3, u4, u10, u11, u16, u17, u18, trivial⟩
  clear u2 u3 u4 u10 u11 u16 u17 u18
  refine ⟨_, hL.symm, ((Lr18) ++ ((Ls) ++ ((Lo) ++ (([(b2, cel 30 [.slice A18 (ls ++ [cl]).length cp18])]) ++ (([(b3, cel 4 [.bool false])]) ++ ([srcE sb A4 cp4 r4])))))), List.Sublist.append (List.Sublist.refl _) (List.Sublist.append (List.Sublist.refl _) (List.Sublist.append (List.Sublist.refl _) (List.Sublist.append (List.Sublist.refl _) (List.Sublist.append (List.Sublist.refl _) (List.sublist_append_left _ _))))), ?_⟩
  refine X.blk ?_
  refine X.region rfl ?_
  refine RL.add rfl rfl rfl (by omega) ?_
  refine RL.move rfl ?_
  refine RL.nil ?_
  refine X.hyp ⟨rfl, g + 1, by omega, _, (by first | exact List.Sublist.refl _ | (simp only [List.append_assoc]; exact List.Sublist.refl _)), ls ++ [cl], r4, A18, cp18, css ++ [cs], Lr18, Ls ++ Lo, A4, cp4, by omega, pN_next hpm hp0, hp3, hco.snoc hp1, nx3.trans hp2, ⟨rfl, rfl, rfl, rfl, rfl, trivial⟩, rfl⟩
 replace hlt : ¬ ((_ : Int) < _) := hlt
 have hgg : g = nc.toNat := by omega
 subst hgg
 refine RL.nil ?_
 refine X.seq ?_
 refine X.cond_f rfl ?_
 refine X.exit rfl ?_
 refine X.seq ?_
 refine X.region rfl ?_
 refine RL.loadOA rfl ag30 rfl (show List.take 1 (List.drop 0 [.slice Am (ls).length cm]) = [.slice Am (ls).length cm] from rfl) rfl ?_
 refine RL.stA rfl rfl ag30.size rfl rfl rfl rfl (by simp [Value.oneCell']) ?_
 refine RL.stB rfl rfl sc4.size rfl rfl (by first | exact Nat.zero_lt_one | decide | simp) ?_
 refine RL.nil ?_
 refine X.ret ?_
 refine rd_ret (Vm := .slice Am ls.length cm) (q := true) (Lr := Lm ++ (Ls ++ [srcE sb A3 cp3 r3])) rfl rfl rfl (by classical exact List.perm_iff_count.2 (fun z => by simp only [List.count_append, List.count_cons, List.count_nil, List.cons_append, List.nil_append, List.set_cons_zero, List.set_cons_succ] <;> omega)) ?_
 exact .inl ⟨ls, Am, cm, Lm ++ Ls, by rw [hC1, hpm]; rfl, rfl, ⟨css, Lm, Ls, hrm, hco, rfl⟩, .cons _ (.cons _ (by simp))⟩
end Go.Proofs.Ytnebpklmbefmfaa

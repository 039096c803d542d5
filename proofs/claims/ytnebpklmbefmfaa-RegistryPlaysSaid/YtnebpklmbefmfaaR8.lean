/- The classes, one behind the other. -/
import Derived.Test.YtnebpklmbefmfaaR5
import Derived.Test.YtnebpklmbefmfaaAllC
set_option linter.unusedVariables false
set_option linter.unusedSimpArgs false
namespace Go.Proofs.Ytnebpklmbefmfaa
open Go.RowKit
attribute [local irreducible] X RL W Ctr
theorem f_classes1 (p : Option Addr) (w : World) : Ctr Try.prog 38 [.pointer p] w [] fun v L => ∃ d1, v = .func (.func 45) #[] #[.pointer (some ⟨d1, 0, none⟩)] ∧ L = [(d1, cel 24 [.pointer p])] := by
 refine Ctr.intro0 (n := 4) Try.func38 rfl Try.ntmps38 (Nat.le_of_ble_eq_true rfl) ?_
 refine X.seq ?_
 refine X.region rfl ?_
 refine RL.boxP rfl rfl rfl ?_
 intro d1 hd1
 dsimp only at hd1
 refine RL.assign rfl ?_
 refine RL.nil ?_
 refine X.seq ?_
 refine X.region rfl ?_
 refine RL.makeFunc rfl rfl rfl ?_
 refine RL.assign rfl ?_
 refine RL.nil ?_
 refine X.ret ?_
 refine ret1 rfl ?_
 exact ⟨d1, rfl, rfl⟩
theorem f_citer0 (d1 : Nat) (Av : List Nat) (w : World) (h1 : w.heap[d1]? = some (cel 24 [.pointer none])) (hv1 : d1 ∈ Av) : IterG Try.prog 45 [.pointer (some ⟨d1, 0, none⟩)] clE [] Av w := by
 intro y LJ J Jx hown hnd hAv hJ0 hy
 have n1 := hAv d1 hv1
 have e1 : w.cell? ⟨d1, 0, none⟩ = some (.pointer none) := by rw [cell_entry h1]; rfl
 refine Ctr.intro (n := 43) Try.func45 rfl Try.ntmps45 (Nat.le_of_ble_eq_true rfl) hown hnd ?_
 refine X.scope rfl ?_
 refine X.seq ?_
 refine X.seq ?_
 refine X.region rfl ?_
 refine RL.loadI rfl sc24 rfl e1 n1 ?_
 refine RL.eqP rfl Try.underlying24 rfl rfl rfl ?_
 refine RL.nil ?_
 refine X.cond_t rfl ?_
 refine X.ret ?_
 refine ret0 rfl ?_
 exact ⟨LJ, [], (List.append_nil _).symm, .inl hJ0⟩
set_option maxHeartbeats 1000000 in
set_option maxRecDepth 10000 in
theorem f_citer (ms : List (List Cl)) (hB : MsB ms) (hok : ∀ m ∈ ms, (mcheckP m).2 = 0) (hm4 : ms.length ≤ 1000) (hm8 : ∀ m ∈ ms, m.length ≤ 1000) (rb cp : Nat) (A : Option Addr) (Lr Lst : List Ent) (delay : Int) (xs : List Ms) (ss : List Mv) (hrow : RowM xs A cp Lr) (hst : StaO ms xs Lst) (hls : ss.length = xs.length) (d1 : Nat) (Av : List Nat) (w : World) (h1 : w.heap[d1]? = some (cel 24 [.pointer (some ⟨rb, 0, none⟩)])) (hG : ∀ p ∈ (RegG rb A cp Lr delay xs ss ++ Lst), w.heap[p.1]? = some p.2) (hGn : (keys (RegG rb A cp Lr delay xs ss ++ Lst)).Nodup) (hv1 : d1 ∈ Av) (hvG : ∀ p ∈ (RegG rb A cp Lr delay xs ss ++ Lst), p.1 ∈ Av) : IterG Try.prog 45 [.pointer (some ⟨d1, 0, none⟩)] clE (allC ms) Av w := by
 intro y LJ J Jx hown hnd hAv hJ0 hy
 have n1 := hAv d1 hv1
 have nG : ∀ p ∈ (RegG rb A cp Lr delay xs ss ++ Lst), p.1 ∉ keys LJ := fun p hp => hAv p.1 (hvG p hp)
 have e1 : w.cell? ⟨d1, 0, none⟩ = some (.pointer (some ⟨rb, 0, none⟩)) := by rw [cell_entry h1]; rfl
 have hlx := hst.len
 have hG0 := St.init hG hGn
 have hR := regG_reads hG0 hrow hls (fun p hp => List.mem_append_left _ hp)
 have hS := hst.reads hG0 (fun p hp => List.mem_append_right _ hp)
 have nrb := nG _ (List.mem_append_left _ List.mem_cons_self)
 have hr1 : w.cell? ⟨rb, 0 + 0, none⟩ = some (.slice A xs.length cp) := by rw [cell_entry (hG _ (List.mem_append_left _ List.mem_cons_self))]; rfl
 refine Ctr.intro (n := 43) Try.func45 rfl Try.ntmps45 (Nat.le_of_ble_eq_true rfl) hown hnd ?_
 refine X.scope rfl ?_
 refine X.seq ?_
 refine X.seq ?_
 refine X.region rfl ?_
 refine RL.loadI rfl sc24 rfl e1 n1 ?_
 refine RL.eqP rfl Try.underlying24 rfl rfl rfl ?_
 refine RL.nil ?_
 refine X.cond_f rfl ?_
 refine X.skip ?_
 refine X.seq ?_
 refine X.label ?_
 refine X.seq ?_
 refine X.region rfl ?_
 refine RL.loadI rfl sc24 rfl e1 n1 ?_
 refine RL.nilCheck rfl rfl ?_
 refine RL.fieldAddr rfl fd83_0 rfl ?_
 refine RL.loadI rfl sc81 rfl hr1 nrb ?_
 refine RL.len rfl sl81 rfl ?_
 refine RL.move rfl ?_
 refine RL.nil ?_
 refine X.block ?_
 refine X.loop (γ := Nat) (fun g ρ L => ∃ LJ2 : List Ent, ∃ Lo : List Ent, (g ≤ ms.length) ∧ (J (allC (ms.take g)) LJ2) ∧ Has ρ [(0, .func (.yield y) #[] #[]), (1, .pointer (some ⟨d1, 0, none⟩)), (13, .slice A xs.length cp), (14, .int .i64 xs.length), (15, .int .i64 g)] ∧ L = LJ2 ++ Lo) (fun g => ms.length - g) (0) ⟨_, (by repeat (first | exact sb0 _ | exact sb1 _ | (rw [List.append_nil]; exact sb0 _) | exact sb2 _ _ | exact sb3 _ _ _ | apply sb4 | apply sb5 | apply sb6)), LJ, [], Nat.zero_le _, hJ0, ⟨rfl, rfl, rfl, rfl, rfl, trivial⟩, rfl⟩ ?_
 rintro g _ _ ⟨LJ2, Lo, hg, hJ, hρ, rfl⟩
 obtain ⟨base, rfl⟩ := hρ.base
 clear hρ
 refine X.seq ?_
 refine X.region rfl ?_
 refine RL.cmp_s rfl rfl rfl rfl (fun h0 => ?_) (fun h0 => ?_)
 ·replace h0 : (_ : Int) < _ := h0
  obtain ⟨x, hx⟩ : ∃ x, xs[g]? = some x := ⟨_, List.getElem?_eq_getElem (by omega)⟩
  obtain ⟨s, hs⟩ : ∃ s, ss[g]? = some s := ⟨_, List.getElem?_eq_getElem (by omega)⟩
  obtain ⟨m, hm⟩ : ∃ m, ms[g]? = some m := ⟨_, List.getElem?_eq_getElem (by omega)⟩
  have hml := hm8 m (List.mem_of_getElem? hm)
  obtain ⟨-, -, Am, cm, -, -, -, -, hvm, -⟩ := hS.get g x m hx hm
  obtain ⟨ab, junk, rfl, rfl⟩ := hrow.open (by omega)
  have mx : (x.b, cel 91 (mCells x s)) ∈ (RegG rb (some ⟨ab, 0, none⟩) cp [(ab, cel 89 (ptrs xs ++ junk))] delay xs ss ++ Lst) := List.mem_append_left _ (List.mem_cons_of_mem _ (List.mem_append_right _ (ents_mem hx hs)))
  have nx := nG _ mx
  have hv2 : w.cell? ⟨x.b, 0 + 1 + 0, none⟩ = some (.slice Am m.length cm) := by rw [cell_entry (hG _ mx), ← hvm]; rfl
  have mr : (ab, cel 89 (ptrs xs ++ junk)) ∈ (RegG rb (some ⟨ab, 0, none⟩) cp [(ab, cel 89 (ptrs xs ++ junk))] delay xs ss ++ Lst) := List.mem_append_left _ (List.mem_cons_of_mem _ (List.mem_append_left _ List.mem_cons_self))
  have nr := nG _ mr
  have hpx : w.cell? ⟨ab, 0 + g * 1, none⟩ = some (.pointer (some ⟨x.b, 0, none⟩)) := by rw [cell_entry (hG _ mr)]; simpa using ptrs_app (junk := junk) hx
  refine RL.nil ?_
  refine X.seq ?_
  refine X.cond_t rfl ?_
  refine X.skip ?_
  refine X.seq ?_
  refine X.block ?_
  refine X.seq ?_
  refine X.region rfl ?_
  refine RL.move rfl ?_
  refine RL.indexAddr rfl sl81 rfl rfl rfl rfl (by omega) ?_
  refine RL.loadI rfl sc89 rfl hpx nr ?_
  refine RL.assign rfl ?_
  refine RL.assign rfl ?_
  refine RL.nil ?_
  refine X.seq ?_
  refine X.region rfl ?_
  refine RL.move rfl ?_
  refine RL.nilCheck rfl rfl ?_
  refine RL.fieldAddr rfl fd91_1 rfl ?_
  refine RL.fieldAddr rfl fd30_0 rfl ?_
  refine RL.loadI rfl sc28 rfl hv2 nx ?_
  refine RL.len rfl sl28 rfl ?_
  refine RL.move rfl ?_
  refine RL.nil ?_
  refine X.block ?_
  refine X.loop (γ := Nat) (fun k ρ L => ∃ LJ3 : List Ent, ∃ Lo3 : List Ent, (k ≤ m.length) ∧ (J (allC (ms.take g) ++ (m.take k).map (fun c => (g, c))) LJ3) ∧ Has ρ [(0, .func (.yield y) #[] #[]), (1, .pointer (some ⟨d1, 0, none⟩)), (3, .int .i64 g), (13, .slice (some ⟨ab, 0, none⟩) xs.length cp), (14, .int .i64 xs.length), (15, .int .i64 g), (25, .int .i64 m.length), (26, .int .i64 k)] ∧ L = LJ3 ++ Lo3) (fun k => m.length - k) (0) ⟨_, (by repeat (first | exact sb0 _ | exact sb1 _ | (rw [List.append_nil]; exact sb0 _) | exact sb2 _ _ | exact sb3 _ _ _ | apply sb4 | apply sb5 | apply sb6)), LJ2, Lo, Nat.zero_le _, by simpa using hJ, ⟨rfl, rfl, rfl, rfl, rfl, rfl, rfl, rfl, trivial⟩, rfl⟩ ?_
  rintro k _ _ ⟨LJ3, Lo3, hk, hJ2, hρ, rfl⟩
  obtain ⟨base, rfl⟩ := hρ.base
  clear hρ
  refine X.seq ?_
  refine X.region rfl ?_
  refine RL.cmp_s rfl rfl rfl rfl (fun h1k => ?_) (fun h1k => ?_)
  ·replace h1k : (_ : Int) < _ := h1k
   obtain ⟨cl, hcl⟩ : ∃ cl, m[k]? = some cl := ⟨_, List.getElem?_eq_getElem (by omega)⟩
   obtain ⟨rest, hF⟩ := allC_at hm hcl
   refine RL.nil ?_
   refine X.seq ?_
   refine X.cond_t rfl ?_
   refine X.skip ?_
   refine X.seq ?_
   refine X.block ?_
   refine X.seq ?_
   refine X.region rfl ?_
   refine RL.move rfl ?_
   refine RL.assign rfl ?_
   refine RL.nil ?_
   refine X.seq ?_
   refine X.region rfl ?_
   refine RL.loadI rfl sc24 rfl e1 n1 ?_
   refine RL.move rfl ?_
   refine RL.move rfl ?_
   refine RL.fn (Lp := []) (Lr := LJ3 ++ Lo3) rfl rfl rfl en27 (List.Perm.refl _) (fun w1 hw1 => by
     have hG1 := St.init (own_keep hw1 hG nG) hGn
     exact f_class g k ms hB hok rb delay xs ss w1 (regG_reads hG1 hrow hls (fun p hp => List.mem_append_left _ hp)) (hst.reads hG1 (fun p hp => List.mem_append_right _ hp))) rfl ?_
   rintro _ Lz (⟨cl2, cs, Lc, hgc, rfl, hco, hlc⟩ | ⟨hgc, rfl⟩)
   rotate_left
   · rw [getC_at hm, hcl] at hgc; cases hgc
   obtain rfl : cl = cl2 := by rw [getC_at hm, hcl] at hgc; exact Option.some.inj hgc
   refine RL.drop (L' := Lc ++ (LJ3 ++ Lo3)) rfl (hlc.append (List.Sublist.refl _)) ?_
   refine RL.move rfl ?_
   refine RL.extract rfl rfl rfl ?_
   refine RL.extract rfl rfl rfl ?_
   refine RL.alloc rfl rfl zt69 ?_
   intro b6 hb6
   dsimp only at hb6
   refine RL.stA rfl rfl ag69.size rfl rfl hco.len rfl hco.one ?_
   refine RL.assign rfl ?_
   refine RL.nil ?_
   refine X.seq ?_
   refine X.region rfl ?_
   refine RL.move rfl ?_
   refine RL.move rfl ?_
   refine RL.loadOA rfl ag69 rfl (take_all hco.len) hco.len ?_
   refine RL.yield (LJ := LJ3 ++ Lc) (Lo := (b6, cel 69 cs) :: Lo3) rfl rfl rfl (by classical exact List.perm_iff_count.2 (fun z => by simp only [List.count_append, List.count_cons, List.count_nil, List.cons_append, List.nil_append, List.set_cons_zero, List.set_cons_succ] <;> omega)) (fun w1 hst1 => hy _ (g, cl) _ LJ3 Lc _ _ w1 hF hJ2 ⟨cs, rfl, hco⟩ hst1) rfl ?_
   rintro _ LJ4 (⟨rfl, hJ4⟩ | ⟨rfl, hJ4⟩)
   ·refine RL.not rfl rfl ?_
    refine RL.nil ?_
    refine X.cond_f rfl ?_
    refine X.skip ?_
    refine X.blk ?_
    refine X.region rfl ?_
    refine RL.add rfl rfl rfl (by omega) ?_
    refine RL.move rfl ?_
    refine RL.nil ?_
    refine X.hyp ⟨rfl, k + 1, by omega, _, (by repeat (first | exact sb0 _ | exact sb1 _ | (rw [List.append_nil]; exact sb0 _) | exact sb2 _ _ | exact sb3 _ _ _ | apply sb4 | apply sb5 | apply sb6)), LJ4, (b6, cel 69 cs) :: Lo3, by omega, by rw [take_snoc hcl, List.map_append, ← List.append_assoc]; exact hJ4, ⟨rfl, rfl, rfl, rfl, rfl, rfl, rfl, rfl, trivial⟩, rfl⟩
   refine RL.not rfl rfl ?_
   refine RL.nil ?_
   refine X.cond_t rfl ?_
   refine X.exit rfl ?_
   refine X.scp ?_
   refine X.nil ?_
   refine end0 rfl ?_
   exact ⟨LJ4, _, rfl, .inr ⟨_, (g, cl), _, hF, hJ4⟩⟩
  replace h1k : ¬ ((_ : Int) < _) := h1k
  refine RL.nil ?_
  refine X.seq ?_
  refine X.cond_f rfl ?_
  refine X.exit rfl ?_
  refine X.blk ?_
  refine X.region rfl ?_
  refine RL.add rfl rfl rfl (by omega) ?_
  refine RL.move rfl ?_
  refine RL.nil ?_
  refine X.hyp ⟨rfl, g + 1, by omega, _, (by repeat (first | exact sb0 _ | exact sb1 _ | (rw [List.append_nil]; exact sb0 _) | exact sb2 _ _ | exact sb3 _ _ _ | apply sb4 | apply sb5 | apply sb6)), LJ3, Lo3, by omega, by rw [allC_succ hm]; rw [List.take_of_length_le (l := m) (by omega)] at hJ2; exact hJ2, ⟨rfl, rfl, rfl, rfl, rfl, trivial⟩, rfl⟩
 replace h0 : ¬ ((_ : Int) < _) := h0
 refine RL.nil ?_
 refine X.seq ?_
 refine X.cond_f rfl ?_
 refine X.exit rfl ?_
 refine X.scp ?_
 refine X.nil ?_
 refine end0 rfl ?_
 exact ⟨LJ2, _, rfl, .inl (by rw [show g = ms.length from by omega, allC_all] at hJ; exact hJ)⟩
set_option maxHeartbeats 1000000 in
set_option maxRecDepth 10000 in
theorem f_classes0 (m : Nat) (w : World) : Ctr Try.prog 29 [.pointer none, .int .i64 m] w [] fun v L => ∃ Ai ci Li Ax cx css Lr Ls, v = .tuple #[.slice Ai (([] : List (Nat × Cl)).take m).length ci, .slice Ax (([] : List (Nat × Cl)).take m).length cx] ∧ Row 3 1 (.slice Ai (([] : List (Nat × Cl)).take m).length ci) (ints ((([] : List (Nat × Cl)).take m).map fun p => ((p.1 : Nat) : Int))) Li ∧ Row 69 19 (.slice Ax (([] : List (Nat × Cl)).take m).length cx) css.flatten Lr ∧ ClsO ((([] : List (Nat × Cl)).take m).map (·.2)) css Ls ∧ (Li ++ (Lr ++ Ls)).Sublist L := by
 refine Ctr.intro0 (n := 32) Try.func29 rfl Try.ntmps29 (Nat.le_of_ble_eq_true rfl) ?_
 refine X.seq ?_
 refine X.region rfl ?_
 refine RL.boxI rfl rfl rfl ?_
 intro k3 hk3
 dsimp only at hk3
 refine RL.assign rfl ?_
 refine RL.assign rfl ?_
 refine RL.nil ?_
 refine X.seq ?_
 refine X.region rfl ?_
 refine RL.alloc rfl rfl zt38 ?_
 intro k6 hk6
 dsimp only at hk6
 refine RL.nil ?_
 refine X.seq ?_
 refine X.region rfl ?_
 refine RL.alloc rfl rfl zt28 ?_
 intro k7 hk7
 dsimp only at hk7
 refine RL.nil ?_
 refine X.seq ?_
 refine X.seq ?_
 refine X.region rfl ?_
 refine RL.move rfl ?_
 refine RL.fn0 rfl rfl rfl en38 (fun w hw => (f_classes1 none w)) rfl ?_
 rintro _ _ ⟨d1, rfl, rfl⟩
 refine RL.assign rfl ?_
 refine RL.nil ?_
 refine X.seq ?_
 refine X.region rfl ?_
 refine RL.move rfl ?_
 refine RL.neNilF rfl Try.underlying102 rfl rfl ?_
 refine RL.nil ?_
 refine X.cond_t rfl ?_
 refine X.seq ?_
 refine X.region rfl ?_
 refine RL.move rfl ?_
 refine RL.nil ?_
 refine X.block ?_
 refine X.fact (fun w2 h => h.nodup) (fun hnd => ?_)
 simp at hnd
 refine X.rangeFuncG (E := clE) (Full := ([] : List (Nat × Cl))) (LB := [(k6, cel 38 [.slice none 0 0]), (k7, cel 28 [.slice none 0 0])]) (Lr := [(d1, cel 24 [.pointer none]), (k3, cel 3 [.int .i64 m])]) (Av := [d1]) (cI k6 k7 m) (cX k6 k7 m) (fun pre x ρ L => ∃ b10 cs Lc LB2, Has ρ [(3, .pointer (some ⟨k3, 0, none⟩)), (6, .pointer (some ⟨k6, 0, none⟩)), (7, .pointer (some ⟨k7, 0, none⟩)), (9, .int .i64 ((x.1 : Nat) : Int)), (10, .pointer (some ⟨b10, 0, none⟩))] ∧ cI k6 k7 m pre LB2 ∧ ClO x.2 cs Lc ∧ L = (b10, cel 69 cs) :: (LB2 ++ Lc)) rfl rfl en45 (by classical exact List.perm_iff_count.2 (fun z => by simp only [List.count_append, List.count_cons, List.count_nil, List.cons_append, List.nil_append, List.set_cons_zero, List.set_cons_succ] <;> omega)) (fun w3 Lm hst3 => f_citer0 d1 [d1] w3 (hst3.own (d1, _) (by simp)) (by simp)) (by
     intro z hz
     simp at hz
     subst hz
     simp [keys] <;> omega) (fun _ _ _ h => by obtain ⟨cs, rfl, _⟩ := h; rfl) ⟨none, 0, [], none, 0, [], [], [], Row.nil, Row.nil, ClsO.nil, Nat.zero_le _, rfl⟩ ?_ ?_ ?_ ?_
 ·rintro pre ⟨xi, xc⟩ rest LB2 Lx vals w2 l2 hF hI ⟨cs, rfl, hco⟩ _
  refine X.seq ?_
  refine X.region rfl ?_
  refine RL.assign rfl ?_
  refine RL.nil ?_
  refine X.region rfl ?_
  refine RL.alloc rfl rfl zt69 ?_
  intro b10 hb10
  dsimp only at hb10
  refine RL.stA rfl rfl ag69.size rfl rfl hco.len rfl hco.one ?_
  refine RL.nil ?_
  exact X.hyp ⟨rfl, b10, cs, Lx, LB2, ⟨rfl, rfl, rfl, rfl, rfl, trivial⟩, hI, hco, rfl⟩
 ·rintro pre ⟨xi, xc⟩ rest ρ2 _ w2 l2 hF ⟨b10, cs, Lc, _, hρ, ⟨Ai, ci, Li, Ax, cx, css, Lrr, Lss, hri, hrx, hcs, hpm, rfl⟩, hco, rfl⟩ ⟨Lo, hstt⟩ hl hrec
  obtain ⟨base2, rfl⟩ := hρ.base
  clear hρ
  have hpl : pre.length ≤ 1000 := by have := congrArg List.length hF; simp at this <;> omega
  have e3 := hstt.cellB (b := k3) (t := 3) (v := .int .i64 m) (by simp)
  have n3 := hstt.not_left (p := (k3, cel 3 [.int .i64 m])) (by simp)
  refine X.block ?_
  refine X.seq ?_
  refine X.seq ?_
  refine X.region rfl ?_
  refine RL.loadO rfl sc38 rfl rfl ?_
  refine RL.len rfl sl38 rfl ?_
  refine RL.loadI rfl sc3 rfl e3 n3 ?_
  refine RL.cmp_s rfl rfl rfl rfl (fun hm => ?_) (fun hm => ?_)
  ·replace hm : (_ : Int) ≥ _ := hm
   refine RL.nil ?_
   refine X.cond_t rfl ?_
   refine X.exit_out rfl ?_
   exact ⟨_, (List.sublist_append_left _ _).trans (List.sublist_cons_self _ _), rfl, pre, (xi, xc), rfl, ⟨Ai, ci, Li, Ax, cx, css, Lrr, Lss, hri, hrx, hcs, hpm, rfl⟩, by omega⟩
  replace hm : ¬ ((_ : Int) ≥ _) := hm
  refine RL.nil ?_
  refine X.cond_f rfl ?_
  refine X.skip ?_
  refine X.seq ?_
  refine X.region rfl ?_
  refine RL.loadO rfl sc38 rfl rfl ?_
  refine RL.move rfl ?_
  refine RL.bs1I rfl rfl sl38 zt3 rfl ?_
  intro bb1 hbb1
  refine RL.app1I (Lr := Li) (Lz := (b10, cel 69 cs) :: (Lrr ++ (Lss ++ (Lc ++ [(k6, cel 38 [.slice Ai pre.length ci]), (k7, cel 28 [.slice Ax pre.length cx])])))) rfl rfl sl38 el_int Try.underlying38 (by classical exact List.perm_iff_count.2 (fun z => by simp only [List.count_append, List.count_cons, List.count_nil, List.cons_append, List.nil_append, List.set_cons_zero, List.set_cons_succ] <;> omega)) rfl rfl hri (by rw [ints_length, List.length_map]; omega) (n := (pre ++ [(xi, xc)]).length) (by rw [ints_length, List.length_map]; simp) ?_
  intro A3 cp3 Lr3 hr3
  rw [← ints_snoc, show (pre.map fun p => ((p.1 : Nat) : Int)) ++ [((xi : Nat) : Int)] = (pre ++ [(xi, xc)]).map (fun p => ((p.1 : Nat) : Int)) by simp] at hr3
  refine RL.stS rfl rfl sc38.size rfl rfl (by first | exact Nat.zero_lt_one | decide | simp) ?_
  refine RL.nil ?_
  refine X.region rfl ?_
  refine RL.loadO rfl sc28 rfl rfl ?_
  refine RL.loadOA rfl ag69 rfl (take_all hco.len) hco.len ?_
  refine RL.bs1A rfl rfl sl28 zt69 rfl hco.len (by decide) ?_
  intro bb2 hbb2
  refine RL.appB (Lr := Lrr) (Lz := (bb2, cel 69 cs) :: (Lr3 ++ (Lss ++ (Lc ++ ([(k6, cel 38 [.slice A3 (pre ++ [(xi, xc)]).length cp3]), (k7, cel 28 [.slice Ax pre.length cx])] ++ [(b10, cel 69 cs), (bb1, cel 3 [.int .i64 ((xi : Nat) : Int)])]))))) (xs := css.flatten) (ys := cs) (N := (pre ++ [(xi, xc)]).length) rfl rfl sl28 el_cl (by decide) (by decide) Try.underlying28 rfl hrx rfl (by classical exact List.perm_iff_count.2 (fun z => by simp only [List.count_append, List.count_cons, List.count_nil, List.cons_append, List.nil_append, List.set_cons_zero, List.set_cons_succ] <;> omega)) List.mem_cons_self hco.len hco.one (by omega) (by simp) ?_
  intro A4 cp4 Lr4 hr4
  rw [show css.flatten ++ cs = (css ++ [cs]).flatten by simp] at hr4
  refine RL.stS rfl rfl sc28.size rfl rfl (by first | exact Nat.zero_lt_one | decide | simp) ?_
  refine RL.perm (L' := (Lr3 ++ (Lr4 ++ ((Lss ++ Lc) ++ [(k6, cel 38 [.slice A3 (pre ++ [(xi, xc)]).length cp3]), (k7, cel 28 [.slice A4 (pre ++ [(xi, xc)]).length cp4])]))) ++ [(b10, cel 69 cs), (bb2, cel 69 cs), (bb1, cel 3 [.int .i64 ((xi : Nat) : Int)])]) rfl (by classical exact List.perm_iff_count.2 (fun z => by simp only [List.count_append, List.count_cons, List.count_nil, List.cons_append, List.nil_append, List.set_cons_zero, List.set_cons_succ] <;> omega)) ?_
  refine RL.nil ?_
  refine X.blk ?_
  refine X.nil ?_
  exact ⟨_, List.sublist_append_left _ _, A3, cp3, Lr3, A4, cp4, css ++ [cs], Lr4, Lss ++ Lc, hr3, hr4, by rw [List.map_append]; exact ClsO.snoc hcs hco, by simp; omega, rfl⟩
 ·rintro LB2 D ⟨Ai, ci, Li, Ax, cx, css, Lrr, Lss, hri, hrx, hcs, hpm, rfl⟩
  refine X.blk ?_
  refine X.seq ?_
  refine X.draw (by kernel_rfl) (by kernel_rfl) ?_
  refine RL.loadO rfl sc38 rfl rfl ?_
  refine RL.loadO rfl sc28 rfl rfl ?_
  refine RL.assign rfl ?_
  refine RL.assign rfl ?_
  refine RL.nil ?_
  refine X.ret ?_
  refine retm2 rfl ?_
  rw [List.take_of_length_le hpm]
  exact ⟨Ai, ci, Li, Ax, cx, css, Lrr, Lss, rfl, hri, hrx, hcs, ((List.Sublist.append (List.Sublist.refl _) (List.Sublist.append (List.Sublist.refl _) (List.sublist_append_left _ _))).trans (List.sublist_append_left _ _))⟩
 rintro e pre x rest LB2 D hF hex ⟨rfl, p, x2, hp, ⟨Ai, ci, Li, Ax, cx, css, Lrr, Lss, hri, hrx, hcs, hpm, rfl⟩, hpl⟩
 obtain ⟨rfl, _⟩ := List.append_inj' hp rfl
 have htk : (([] : List (Nat × Cl)).take m) = pre := by rw [hF, ← hpl]; simp
 refine X.exit (id := 0) rfl ?_
 refine X.seq ?_
 refine X.draw (by kernel_rfl) (by kernel_rfl) ?_
 refine RL.loadO rfl sc38 rfl rfl ?_
 refine RL.loadO rfl sc28 rfl rfl ?_
 refine RL.assign rfl ?_
 refine RL.assign rfl ?_
 refine RL.nil ?_
 refine X.ret ?_
 refine retm2 rfl ?_
 rw [htk]
 exact ⟨Ai, ci, Li, Ax, cx, css, Lrr, Lss, rfl, hri, hrx, hcs, ((List.Sublist.append (List.Sublist.refl _) (List.Sublist.append (List.Sublist.refl _) (List.sublist_append_left _ _))).trans (List.sublist_append_left _ _))⟩
set_option maxHeartbeats 1000000 in
set_option maxRecDepth 10000 in
theorem f_classes (ms : List (List Cl)) (hB : MsB ms) (hok : ∀ m ∈ ms, (mcheckP m).2 = 0) (hm4 : ms.length ≤ 1000) (hm8 : ∀ m ∈ ms, m.length ≤ 1000) (rb cp : Nat) (A : Option Addr) (Lr Lst : List Ent) (delay : Int) (xs : List Ms) (ss : List Mv) (hrow : RowM xs A cp Lr) (hst : StaO ms xs Lst) (hls : ss.length = xs.length) (m : Nat) (hfl : (allC ms).length ≤ 1000) (w : World) (hG : ∀ p ∈ (RegG rb A cp Lr delay xs ss ++ Lst), w.heap[p.1]? = some p.2) (hGn : (keys (RegG rb A cp Lr delay xs ss ++ Lst)).Nodup) : Ctr Try.prog 29 [.pointer (some ⟨rb, 0, none⟩), .int .i64 m] w [] fun v L => ∃ Ai ci Li Ax cx css Lr Ls, v = .tuple #[.slice Ai ((allC ms).take m).length ci, .slice Ax ((allC ms).take m).length cx] ∧ Row 3 1 (.slice Ai ((allC ms).take m).length ci) (ints (((allC ms).take m).map fun p => ((p.1 : Nat) : Int))) Li ∧ Row 69 19 (.slice Ax ((allC ms).take m).length cx) css.flatten Lr ∧ ClsO (((allC ms).take m).map (·.2)) css Ls ∧ (Li ++ (Lr ++ Ls)).Sublist L := by
 refine Ctr.intro0 (n := 32) Try.func29 rfl Try.ntmps29 (Nat.le_of_ble_eq_true rfl) ?_
 refine X.seq ?_
 refine X.region rfl ?_
 refine RL.boxI rfl rfl rfl ?_
 intro k3 hk3
 dsimp only at hk3
 refine RL.assign rfl ?_
 refine RL.assign rfl ?_
 refine RL.nil ?_
 refine X.seq ?_
 refine X.region rfl ?_
 refine RL.alloc rfl rfl zt38 ?_
 intro k6 hk6
 dsimp only at hk6
 refine RL.nil ?_
 refine X.seq ?_
 refine X.region rfl ?_
 refine RL.alloc rfl rfl zt28 ?_
 intro k7 hk7
 dsimp only at hk7
 refine RL.nil ?_
 refine X.seq ?_
 refine X.seq ?_
 refine X.region rfl ?_
 refine RL.move rfl ?_
 refine RL.fn0 rfl rfl rfl en38 (fun w hw => (f_classes1 (some ⟨rb, 0, none⟩) w)) rfl ?_
 rintro _ _ ⟨d1, rfl, rfl⟩
 refine RL.assign rfl ?_
 refine RL.nil ?_
 refine X.seq ?_
 refine X.region rfl ?_
 refine RL.move rfl ?_
 refine RL.neNilF rfl Try.underlying102 rfl rfl ?_
 refine RL.nil ?_
 refine X.cond_t rfl ?_
 refine X.seq ?_
 refine X.region rfl ?_
 refine RL.move rfl ?_
 refine RL.nil ?_
 refine X.block ?_
 refine X.fact (fun w2 h => h.nodup) (fun hnd => ?_)
 simp at hnd
 refine X.rangeFuncG (E := clE) (Full := allC ms) (LB := [(k6, cel 38 [.slice none 0 0]), (k7, cel 28 [.slice none 0 0])]) (Lr := [(d1, cel 24 [.pointer (some ⟨rb, 0, none⟩)]), (k3, cel 3 [.int .i64 m])]) (Av := (d1 :: keys (RegG rb A cp Lr delay xs ss ++ Lst))) (cI k6 k7 m) (cX k6 k7 m) (fun pre x ρ L => ∃ b10 cs Lc LB2, Has ρ [(3, .pointer (some ⟨k3, 0, none⟩)), (6, .pointer (some ⟨k6, 0, none⟩)), (7, .pointer (some ⟨k7, 0, none⟩)), (9, .int .i64 ((x.1 : Nat) : Int)), (10, .pointer (some ⟨b10, 0, none⟩))] ∧ cI k6 k7 m pre LB2 ∧ ClO x.2 cs Lc ∧ L = (b10, cel 69 cs) :: (LB2 ++ Lc)) rfl rfl en45 (by classical exact List.perm_iff_count.2 (fun z => by simp only [List.count_append, List.count_cons, List.count_nil, List.cons_append, List.nil_append, List.set_cons_zero, List.set_cons_succ] <;> omega)) (fun w3 Lm hst3 => f_citer ms hB hok hm4 hm8 rb cp A Lr Lst delay xs ss hrow hst hls d1 (d1 :: keys (RegG rb A cp Lr delay xs ss ++ Lst)) w3 (hst3.own (d1, _) (by simp)) (own_keep hst3 hG (fun p hp => by simp)) hGn (by simp) (fun p hp => List.mem_cons_of_mem _ (List.mem_map.2 ⟨p, hp, rfl⟩))) (by
     intro z hz
     rcases List.mem_cons.1 hz with rfl | hz
     · simp [keys]; omega
     · obtain ⟨p, hp, rfl⟩ := List.mem_map.1 hz
       have := (Array.getElem?_eq_some_iff.1 (hG p hp)).1
       simp [keys]; omega) (fun _ _ _ h => by obtain ⟨cs, rfl, _⟩ := h; rfl) ⟨none, 0, [], none, 0, [], [], [], Row.nil, Row.nil, ClsO.nil, Nat.zero_le _, rfl⟩ ?_ ?_ ?_ ?_
 ·rintro pre ⟨xi, xc⟩ rest LB2 Lx vals w2 l2 hF hI ⟨cs, rfl, hco⟩ _
  refine X.seq ?_
  refine X.region rfl ?_
  refine RL.assign rfl ?_
  refine RL.nil ?_
  refine X.region rfl ?_
  refine RL.alloc rfl rfl zt69 ?_
  intro b10 hb10
  dsimp only at hb10
  refine RL.stA rfl rfl ag69.size rfl rfl hco.len rfl hco.one ?_
  refine RL.nil ?_
  exact X.hyp ⟨rfl, b10, cs, Lx, LB2, ⟨rfl, rfl, rfl, rfl, rfl, trivial⟩, hI, hco, rfl⟩
 ·rintro pre ⟨xi, xc⟩ rest ρ2 _ w2 l2 hF ⟨b10, cs, Lc, _, hρ, ⟨Ai, ci, Li, Ax, cx, css, Lrr, Lss, hri, hrx, hcs, hpm, rfl⟩, hco, rfl⟩ ⟨Lo, hstt⟩ hl hrec
  obtain ⟨base2, rfl⟩ := hρ.base
  clear hρ
  have hpl : pre.length ≤ 1000 := by have := congrArg List.length hF; simp at this <;> omega
  have e3 := hstt.cellB (b := k3) (t := 3) (v := .int .i64 m) (by simp)
  have n3 := hstt.not_left (p := (k3, cel 3 [.int .i64 m])) (by simp)
  refine X.block ?_
  refine X.seq ?_
  refine X.seq ?_
  refine X.region rfl ?_
  refine RL.loadO rfl sc38 rfl rfl ?_
  refine RL.len rfl sl38 rfl ?_
  refine RL.loadI rfl sc3 rfl e3 n3 ?_
  refine RL.cmp_s rfl rfl rfl rfl (fun hm => ?_) (fun hm => ?_)
  ·replace hm : (_ : Int) ≥ _ := hm
   refine RL.nil ?_
   refine X.cond_t rfl ?_
   refine X.exit_out rfl ?_
   exact ⟨_, (List.sublist_append_left _ _).trans (List.sublist_cons_self _ _), rfl, pre, (xi, xc), rfl, ⟨Ai, ci, Li, Ax, cx, css, Lrr, Lss, hri, hrx, hcs, hpm, rfl⟩, by omega⟩
  replace hm : ¬ ((_ : Int) ≥ _) := hm
  refine RL.nil ?_
  refine X.cond_f rfl ?_
  refine X.skip ?_
  refine X.seq ?_
  refine X.region rfl ?_
  refine RL.loadO rfl sc38 rfl rfl ?_
  refine RL.move rfl ?_
  refine RL.bs1I rfl rfl sl38 zt3 rfl ?_
  intro bb1 hbb1
  refine RL.app1I (Lr := Li) (Lz := (b10, cel 69 cs) :: (Lrr ++ (Lss ++ (Lc ++ [(k6, cel 38 [.slice Ai pre.length ci]), (k7, cel 28 [.slice Ax pre.length cx])])))) rfl rfl sl38 el_int Try.underlying38 (by classical exact List.perm_iff_count.2 (fun z => by simp only [List.count_append, List.count_cons, List.count_nil, List.cons_append, List.nil_append, List.set_cons_zero, List.set_cons_succ] <;> omega)) rfl rfl hri (by rw [ints_length, List.length_map]; omega) (n := (pre ++ [(xi, xc)]).length) (by rw [ints_length, List.length_map]; simp) ?_
  intro A3 cp3 Lr3 hr3
  rw [← ints_snoc, show (pre.map fun p => ((p.1 : Nat) : Int)) ++ [((xi : Nat) : Int)] = (pre ++ [(xi, xc)]).map (fun p => ((p.1 : Nat) : Int)) by simp] at hr3
  refine RL.stS rfl rfl sc38.size rfl rfl (by first | exact Nat.zero_lt_one | decide | simp) ?_
  refine RL.nil ?_
  refine X.region rfl ?_
  refine RL.loadO rfl sc28 rfl rfl ?_
  refine RL.loadOA rfl ag69 rfl (take_all hco.len) hco.len ?_
  refine RL.bs1A rfl rfl sl28 zt69 rfl hco.len (by decide) ?_
  intro bb2 hbb2
  refine RL.appB (Lr := Lrr) (Lz := (bb2, cel 69 cs) :: (Lr3 ++ (Lss ++ (Lc ++ ([(k6, cel 38 [.slice A3 (pre ++ [(xi, xc)]).length cp3]), (k7, cel 28 [.slice Ax pre.length cx])] ++ [(b10, cel 69 cs), (bb1, cel 3 [.int .i64 ((xi : Nat) : Int)])]))))) (xs := css.flatten) (ys := cs) (N := (pre ++ [(xi, xc)]).length) rfl rfl sl28 el_cl (by decide) (by decide) Try.underlying28 rfl hrx rfl (by classical exact List.perm_iff_count.2 (fun z => by simp only [List.count_append, List.count_cons, List.count_nil, List.cons_append, List.nil_append, List.set_cons_zero, List.set_cons_succ] <;> omega)) List.mem_cons_self hco.len hco.one (by omega) (by simp) ?_
  intro A4 cp4 Lr4 hr4
  rw [show css.flatten ++ cs = (css ++ [cs]).flatten by simp] at hr4
  refine RL.stS rfl rfl sc28.size rfl rfl (by first | exact Nat.zero_lt_one | decide | simp) ?_
  refine RL.perm (L' := (Lr3 ++ (Lr4 ++ ((Lss ++ Lc) ++ [(k6, cel 38 [.slice A3 (pre ++ [(xi, xc)]).length cp3]), (k7, cel 28 [.slice A4 (pre ++ [(xi, xc)]).length cp4])]))) ++ [(b10, cel 69 cs), (bb2, cel 69 cs), (bb1, cel 3 [.int .i64 ((xi : Nat) : Int)])]) rfl (by classical exact List.perm_iff_count.2 (fun z => by simp only [List.count_append, List.count_cons, List.count_nil, List.cons_append, List.nil_append, List.set_cons_zero, List.set_cons_succ] <;> omega)) ?_
  refine RL.nil ?_
  refine X.blk ?_
  refine X.nil ?_
  exact ⟨_, List.sublist_append_left _ _, A3, cp3, Lr3, A4, cp4, css ++ [cs], Lr4, Lss ++ Lc, hr3, hr4, by rw [List.map_append]; exact ClsO.snoc hcs hco, by simp; omega, rfl⟩
 ·rintro LB2 D ⟨Ai, ci, Li, Ax, cx, css, Lrr, Lss, hri, hrx, hcs, hpm, rfl⟩
  refine X.blk ?_
  refine X.seq ?_
  refine X.draw (by kernel_rfl) (by kernel_rfl) ?_
  refine RL.loadO rfl sc38 rfl rfl ?_
  refine RL.loadO rfl sc28 rfl rfl ?_
  refine RL.assign rfl ?_
  refine RL.assign rfl ?_
  refine RL.nil ?_
  refine X.ret ?_
  refine retm2 rfl ?_
  rw [List.take_of_length_le hpm]
  exact ⟨Ai, ci, Li, Ax, cx, css, Lrr, Lss, rfl, hri, hrx, hcs, ((List.Sublist.append (List.Sublist.refl _) (List.Sublist.append (List.Sublist.refl _) (List.sublist_append_left _ _))).trans (List.sublist_append_left _ _))⟩
 rintro e pre x rest LB2 D hF hex ⟨rfl, p, x2, hp, ⟨Ai, ci, Li, Ax, cx, css, Lrr, Lss, hri, hrx, hcs, hpm, rfl⟩, hpl⟩
 obtain ⟨rfl, _⟩ := List.append_inj' hp rfl
 have htk : ((allC ms).take m) = pre := by rw [hF, ← hpl]; simp
 refine X.exit (id := 0) rfl ?_
 refine X.seq ?_
 refine X.draw (by kernel_rfl) (by kernel_rfl) ?_
 refine RL.loadO rfl sc38 rfl rfl ?_
 refine RL.loadO rfl sc28 rfl rfl ?_
 refine RL.assign rfl ?_
 refine RL.assign rfl ?_
 refine RL.nil ?_
 refine X.ret ?_
 refine retm2 rfl ?_
 rw [htk]
 exact ⟨Ai, ci, Li, Ax, cx, css, Lrr, Lss, rfl, hri, hrx, hcs, ((List.Sublist.append (List.Sublist.refl _) (List.Sublist.append (List.Sublist.refl _) (List.sublist_append_left _ _))).trans (List.sublist_append_left _ _))⟩
end Go.Proofs.Ytnebpklmbefmfaa

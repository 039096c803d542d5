/- The law: what is found. -/
import Derived.Test.YtdnnnbjmjjdcfaaE3
import Derived.Test.YtdnnnbjmjjdcfaaF1
set_option linter.unusedVariables false
set_option linter.unusedSimpArgs false
namespace Go.Proofs.Ytdnnnbjmjjdcfaa
open Go.RowKit
attribute [local irreducible] X RL W Ctr
set_option maxHeartbeats 1000000 in
set_option maxRecDepth 10000 in
theorem w_finds (m : List Cl) (A : Option Addr) (n : Nat) (w : World) (hm : ModR w m A) (hcb : ∀ c ∈ m, ClB c) (id : List Int) (hi : id.length = 16) (method : Int) :
    Ctr Try.prog 7 [.agg #[.slice A m.length n], .agg (gcells id).toArray, .int .i64 method] w [] fun v _ => v = .bool true := by
 have hm1 := hm
 obtain ⟨bb, oo, hA, hc⟩ := hm.open
 refine Ctr.intro0 (n := 127) Try.func7 rfl Try.ntmps7 (Nat.le_of_ble_eq_true rfl) ?_
 refine X.seq ?_
 refine X.region rfl ?_
 refine RL.boxA rfl rfl rfl ?_
 intro b1 hb1
 dsimp only at hb1
 refine RL.boxA rfl rfl rfl ?_
 intro b4 hb4
 dsimp only at hb4
 refine RL.assign rfl ?_
 refine RL.nil ?_
 refine X.seq ?_
 refine X.seq ?_
 refine X.region rfl ?_
 refine RL.loadOA rfl ag24 rfl (show List.take 1 (List.drop 0 [.slice A m.length n]) = [.slice A m.length n] from rfl) rfl ?_
 refine RL.fn (Lp := []) (Lr := [(b4, cel 34 (gcells id)), (b1, cel 24 [.slice A m.length n])]) rfl rfl rfl en8 (List.Perm.refl _) (fun w1 hw1 => f_great m A n w1 (hm1.st0 hw1)) rfl ?_
 rintro _ Lz ⟨q, rfl, hq⟩
 refine RL.drop (L' := [(b4, cel 34 (gcells id)), (b1, cel 24 [.slice A m.length n])]) rfl (List.sublist_append_right _ _) ?_
 cases q
 rotate_left
 ·refine RL.nil ?_
  refine X.cond_t rfl ?_
  refine X.seq ?_
  refine X.region rfl ?_
  refine RL.fn0 rfl rfl rfl en9 (fun w hw => (f_awake w)) rfl ?_
  rintro _ _ rfl
  refine RL.assign rfl ?_
  refine RL.nil ?_
  refine X.ret ?_
  exact ret1 rfl rfl
 ·obtain ⟨hl12, hsz⟩ := hq rfl
  have hlen : m.length ≤ 1000 := by omega
  refine RL.nil ?_
  refine X.cond_f rfl ?_
  refine X.skip ?_
  refine X.seq ?_
  refine X.region rfl ?_
  refine RL.loadOA rfl ag24 rfl (show List.take 1 (List.drop 0 [.slice A m.length n]) = [.slice A m.length n] from rfl) rfl ?_
  refine RL.loadOA rfl ag34 rfl (take_all (gcells_length hi)) (gcells_length hi) ?_
  rcases hf : mfindP m id with _ | k
  ·refine RL.fnQ (v := .tuple #[.int .i64 0, .int .i64 8]) rfl rfl en24 (fun w1 hw1 => (f_mfind m hsz hlen A n w1 (hm1.st0 hw1) id hi).mono (fun v L h => by rw [hf] at h; exact h)) rfl ?_
   refine RL.move rfl ?_
   refine RL.extract rfl rfl rfl ?_
   refine RL.extract rfl rfl rfl ?_
   refine RL.assign rfl ?_
   refine RL.assign rfl ?_
   refine RL.nil ?_
   refine X.seq ?_
   refine X.region rfl ?_
   refine RL.loadOA rfl ag24 rfl (show List.take 1 (List.drop 0 [.slice A m.length n]) = [.slice A m.length n] from rfl) rfl ?_
   refine RL.loadOA rfl ag34 rfl (take_all (gcells_length hi)) (gcells_length hi) ?_
   refine RL.fnQ (v := .int .i64 (-1)) rfl rfl en25 (fun w1 hw1 => (f_rmfind m hsz hlen A n w1 (hm1.st0 hw1) id hi).mono (fun v L h => by rw [hf] at h; exact h)) rfl ?_
   refine RL.assign rfl ?_
   refine RL.nil ?_
   refine X.seq ?_
   refine X.seq ?_
   refine X.region rfl ?_
   refine RL.move rfl ?_
   refine RL.cmp_t rfl rfl rfl rfl (by show ((_ : Int) < _); decide) ?_
   refine RL.nil ?_
   refine X.cond_t rfl ?_
   refine X.seq ?_
   refine X.region rfl ?_
   refine RL.move rfl ?_
   refine RL.cmp_t rfl rfl rfl rfl (by show ((_ : Int) = _); rfl) ?_
   refine RL.move rfl ?_
   refine RL.move rfl ?_
   refine RL.cmp_t rfl rfl rfl rfl (by show ((_ : Int) = _); rfl) ?_
   refine RL.pick_t rfl rfl ?_
   refine RL.move rfl ?_
   refine RL.fn0 rfl rfl rfl en9 (fun w hw => (f_awake w)) rfl ?_
   rintro _ _ rfl
   refine RL.pick_t rfl rfl ?_
   refine RL.assign rfl ?_
   refine RL.nil ?_
   refine X.ret ?_
   exact ret1 rfl rfl
  ·have hk := mfindP_at hf
   obtain ⟨cl, hcl⟩ : ∃ cl, m[k]? = some cl := ⟨_, List.getElem?_eq_getElem hk⟩
   obtain ⟨cs, hcs, hcr⟩ := hc k cl hcl
   have hcr0 := hcr
   have hcz := hsz cl (List.mem_of_getElem? hcl)
   have h19 := hcr.len
   have hone := hcr.one
   obtain ⟨hid, hfo, Af, cf, Am, cm, ms, rfl, ⟨bf, of_, hAf0, hcf⟩, ⟨bm, om, hAm, hcm⟩, hms⟩ := hcr
   rw [hms.1] at hAm
   have hAf : 0 < cl.faces.length → Af = some ⟨bf, of_, none⟩ := fun h => hAf0 (by rw [fcells_len hfo]; omega)
   refine RL.fnQ (v := .tuple #[.int .i64 ((k : Nat) : Int), .int .i64 0]) rfl rfl en24 (fun w1 hw1 => (f_mfind m hsz hlen A n w1 (hm1.st0 hw1) id hi).mono (fun v L h => by rw [hf] at h; exact h)) rfl ?_
   refine RL.move rfl ?_
   refine RL.extract rfl rfl rfl ?_
   refine RL.extract rfl rfl rfl ?_
   refine RL.assign rfl ?_
   refine RL.assign rfl ?_
   refine RL.nil ?_
   refine X.seq ?_
   refine X.region rfl ?_
   refine RL.loadOA rfl ag24 rfl (show List.take 1 (List.drop 0 [.slice A m.length n]) = [.slice A m.length n] from rfl) rfl ?_
   refine RL.loadOA rfl ag34 rfl (take_all (gcells_length hi)) (gcells_length hi) ?_
   refine RL.fnQ (v := .int .i64 ((k : Nat) : Int)) rfl rfl en25 (fun w1 hw1 => (f_rmfind m hsz hlen A n w1 (hm1.st0 hw1) id hi).mono (fun v L h => by rw [hf] at h; exact h)) rfl ?_
   refine RL.assign rfl ?_
   refine RL.nil ?_
   refine X.seq ?_
   refine X.seq ?_
   refine X.region rfl ?_
   refine RL.move rfl ?_
   refine RL.cmp_f rfl rfl rfl rfl (by show ¬ ((_ : Int) < _); omega) ?_
   refine RL.nil ?_
   refine X.cond_f rfl ?_
   refine X.skip ?_
   refine X.seq ?_
   refine X.seq ?_
   refine X.region rfl ?_
   refine RL.move rfl ?_
   refine RL.cmp_f rfl rfl rfl rfl (by show ¬ ((_ : Int) ≠ _); exact fun h => h rfl) ?_
   refine RL.move rfl ?_
   refine RL.move rfl ?_
   refine RL.move rfl ?_
   refine RL.cmp_f rfl rfl rfl rfl (by show ¬ ((_ : Int) ≠ _); exact fun h => h rfl) ?_
   refine RL.pick_f rfl rfl ?_
   refine RL.nil ?_
   refine X.cond_f rfl ?_
   refine X.skip ?_
   refine X.seq ?_
   refine X.region rfl ?_
   refine RL.fieldAddr rfl fd24_0 rfl ?_
   refine RL.loadO rfl sc22 rfl rfl ?_
   refine RL.move rfl ?_
   refine RL.indexAddr rfl sl22 rfl rfl (hA (by omega)) rfl (by omega) ?_
   refine RL.loadIA rfl ag38 rfl hcs (by simp) h19 ?_
   refine RL.alloc rfl rfl zt38 ?_
   intro b10 hb10
   dsimp only at hb10
   refine RL.stA rfl rfl ag38.size rfl rfl h19 rfl hone ?_
   refine RL.nil ?_
   refine X.seq ?_
   refine X.region rfl ?_
   refine RL.loadOA rfl ag38 rfl (take_all h19) h19 ?_
   refine RL.move rfl ?_
   refine RL.fn (Lp := []) (Lr := [(b10, cel 38 (clCells cl.id (.slice Af cl.faces.length cf) cl.slots (.slice Am cl.methods.length cm))), (b4, cel 34 (gcells id)), (b1, cel 24 [.slice A m.length n])]) rfl rfl rfl en26 (List.Perm.refl _) (fun w1 hw1 => f_method cl _ hcz w1 (hcr0.st0 hw1) method) rfl ?_
   rintro _ Lz (⟨i, l, rfl, hl, A2, cp2, Lr, rfl, hr, hs⟩ | ⟨hbad, rfl⟩)
   rotate_left
   ·refine RL.move rfl ?_
    refine RL.extract rfl rfl rfl ?_
    refine RL.extract rfl rfl rfl ?_
    refine RL.assign rfl ?_
    refine RL.assign rfl ?_
    refine RL.nil ?_
    refine X.seq ?_
    refine X.seq ?_
    refine X.region rfl ?_
    refine RL.move rfl ?_
    refine RL.cmp_s rfl rfl rfl rfl (fun h0 => ?_) (fun h0 => ?_)
    ·replace h0 : (_ : Int) < _ := h0
     refine RL.move rfl ?_
     refine RL.skip rfl ?_
     refine RL.skip rfl ?_
     refine RL.skip rfl ?_
     refine RL.skip rfl ?_
     refine RL.skip rfl ?_
     refine RL.pick_t rfl rfl ?_
     refine RL.nil ?_
     refine X.cond_t rfl ?_
     refine X.seq ?_
     refine X.region rfl ?_
     refine RL.move rfl ?_
     refine RL.cmp_t rfl rfl rfl rfl (by show ((_ : Int) = _); rfl) ?_
     refine RL.move rfl ?_
     refine RL.move rfl ?_
     refine RL.len rfl sl56 rfl ?_
     refine RL.cmp_t rfl rfl rfl rfl (by show ((_ : Int) = _); rfl) ?_
     refine RL.pick_t rfl rfl ?_
     refine RL.move rfl ?_
     refine RL.fn0 rfl rfl rfl en9 (fun w hw => (f_awake w)) rfl ?_
     rintro _ _ rfl
     refine RL.pick_t rfl rfl ?_
     refine RL.assign rfl ?_
     refine RL.nil ?_
     refine X.ret ?_
     exact ret1 rfl rfl
    ·replace h0 : ¬ ((_ : Int) < _) := h0
     refine RL.move rfl ?_
     refine RL.move rfl ?_
     refine RL.fieldAddr rfl fd38_3 rfl ?_
     refine RL.loadO rfl sc36 rfl (clCells_m hid) ?_
     refine RL.len rfl sl36 rfl ?_
     refine RL.cmp_t rfl rfl rfl rfl (by show ((_ : Int) ≥ _); omega) ?_
     refine RL.pick_f rfl rfl ?_
     refine RL.nil ?_
     refine X.cond_t rfl ?_
     refine X.seq ?_
     refine X.region rfl ?_
     refine RL.move rfl ?_
     refine RL.cmp_t rfl rfl rfl rfl (by show ((_ : Int) = _); rfl) ?_
     refine RL.move rfl ?_
     refine RL.move rfl ?_
     refine RL.len rfl sl56 rfl ?_
     refine RL.cmp_t rfl rfl rfl rfl (by show ((_ : Int) = _); rfl) ?_
     refine RL.pick_t rfl rfl ?_
     refine RL.move rfl ?_
     refine RL.fn0 rfl rfl rfl en9 (fun w hw => (f_awake w)) rfl ?_
     rintro _ _ rfl
     refine RL.pick_t rfl rfl ?_
     refine RL.assign rfl ?_
     refine RL.nil ?_
     refine X.ret ?_
     exact ret1 rfl rfl
   ·have hil := (List.getElem?_eq_some_iff.1 hl).1
    obtain ⟨Al, c2, hml, hrl⟩ := hms.2 i l hl
    have hll := hcz.rows l (List.mem_of_getElem? hl)
    refine RL.drop (L' := Lr ++ [(b10, cel 38 (clCells cl.id (.slice Af cl.faces.length cf) cl.slots (.slice Am cl.methods.length cm))), (b4, cel 34 (gcells id)), (b1, cel 24 [.slice A m.length n])]) rfl (List.Sublist.append hs (List.Sublist.refl _)) ?_
    refine RL.move rfl ?_
    refine RL.extract rfl rfl rfl ?_
    refine RL.extract rfl rfl rfl ?_
    refine RL.assign rfl ?_
    refine RL.assign rfl ?_
    refine RL.nil ?_
    refine X.seq ?_
    refine X.seq ?_
    refine X.region rfl ?_
    refine RL.move rfl ?_
    refine RL.cmp_f rfl rfl rfl rfl (by show ¬ ((_ : Int) < _); omega) ?_
    refine RL.move rfl ?_
    refine RL.move rfl ?_
    refine RL.fieldAddr rfl fd38_3 rfl ?_
    refine RL.loadO rfl sc36 rfl (clCells_m hid) ?_
    refine RL.len rfl sl36 rfl ?_
    refine RL.cmp_f rfl rfl rfl rfl (by show ¬ ((_ : Int) ≥ _); omega) ?_
    refine RL.pick_f rfl rfl ?_
    refine RL.nil ?_
    refine X.cond_f rfl ?_
    refine X.skip ?_
    refine X.seq ?_
    refine X.seq ?_
    refine X.region rfl ?_
    refine RL.move rfl ?_
    refine RL.cmp_f rfl rfl rfl rfl (by show ¬ ((_ : Int) ≠ _); exact fun h => h rfl) ?_
    refine RL.move rfl ?_
    refine RL.move rfl ?_
    refine RL.fieldAddr rfl fd38_3 rfl ?_
    refine RL.loadO rfl sc36 rfl (clCells_m hid) ?_
    refine RL.move rfl ?_
    refine RL.indexAddr rfl sl36 rfl rfl (hAm (by omega)) rfl (by omega) ?_
    refine RL.loadI rfl sc56 rfl (by rw [Nat.mul_one]; exact hcm i _ hml) (by simp) ?_
    refine RL.fnQ (v := .bool true) rfl rfl en27 (fun w1 hw1 => f_samecode l hll A2 Al cp2 c2 w1 (row_rd hr hw1 (fun p hp => by simp [hp])) (hrl.st0 hw1)) rfl ?_
    refine RL.not rfl rfl ?_
    refine RL.pick_f rfl rfl ?_
    refine RL.nil ?_
    refine X.cond_f rfl ?_
    refine X.skip ?_
    refine X.seq ?_
    refine X.seq ?_
    refine X.region rfl ?_
    refine RL.assign rfl ?_
    refine RL.nil ?_
    refine X.block ?_
    refine X.loop (γ := Nat) (fun g ρ L => ∃ pre : List Ins, ∃ post : List Ins, ∃ Lq : List Ent, (pre.length = g) ∧ (l = pre ++ post) ∧ (Row 61 3 (.slice A2 l.length cp2) (icells (pre.map bumpI ++ post)) Lq) ∧ Has ρ [(2, .int .i64 (i : Int)), (3, .pointer (some ⟨b1, 0, none⟩)), (4, .pointer (some ⟨b4, 0, none⟩)), (10, .pointer (some ⟨b10, 0, none⟩)), (11, .slice A2 l.length cp2), (13, .int .i64 g)] ∧ L = Lq ++ [(b10, cel 38 (clCells cl.id (.slice Af cl.faces.length cf) cl.slots (.slice Am cl.methods.length cm))), (b4, cel 34 (gcells id)), (b1, cel 24 [.slice A m.length n])]) (fun g => l.length - g) (0) ⟨_, (by repeat (first | exact List.Sublist.refl _ | exact List.nil_sublist _ | (rw [List.append_nil]; exact List.Sublist.refl _) | exact List.sublist_append_left _ _ | exact (List.sublist_append_left _ _).trans (List.sublist_append_left _ _) | apply List.Sublist.cons_cons | apply List.Sublist.cons | refine List.Sublist.trans ?_ (List.sublist_append_right _ _))), [], l, Lr, rfl, rfl, hr, ⟨rfl, rfl, rfl, rfl, rfl, rfl, trivial⟩, rfl⟩ ?_
    rintro g _ _ ⟨pre, post, Lq, hpl, hlp, hrq, hρ, rfl⟩
    obtain ⟨base, rfl⟩ := hρ.base
    clear hρ
    have hgl : g ≤ l.length := by rw [hlp, List.length_append]; omega
    refine X.seq ?_
    refine X.seq ?_
    refine X.region rfl ?_
    refine RL.move rfl ?_
    refine RL.move rfl ?_
    refine RL.len rfl sl56 rfl ?_
    refine RL.cmp_s rfl rfl rfl rfl (fun hg => ?_) (fun hg => ?_)
    ·replace hg : (_ : Int) < _ := hg
     rcases post with _ | ⟨x, post⟩
     · rw [hlp] at hg; simp at hg; omega
     obtain ⟨bq, junk, rfl, rfl⟩ := hrq.open (by omega)
     have hpm : (pre.map bumpI).length = g := by rw [List.length_map]; exact hpl
     have hop := ins_op (pre.map bumpI) post x junk
     rw [hpm] at hop
     refine RL.nil ?_
     refine X.cond_t rfl ?_
     refine X.skip ?_
     refine X.seq ?_
     refine X.block ?_
     refine X.region rfl ?_
     refine RL.move rfl ?_
     refine RL.move rfl ?_
     refine RL.indexAddr rfl sl56 rfl rfl rfl rfl (by omega) ?_
     refine RL.fieldAddr rfl fd61_0 rfl ?_
     refine RL.loadO rfl sc3 rfl hop ?_
     refine RL.addW rfl rfl rfl ?_
     refine RL.indexAddr rfl sl56 rfl rfl rfl rfl (by omega) ?_
     refine RL.fieldAddr rfl fd61_0 rfl ?_
     refine RL.stI rfl rfl sc3.size rfl rfl (by rw [List.length_append, ecells_len Ins.len, List.length_append, hpm, List.length_cons]; omega) ?_
     refine RL.nil ?_
     refine X.blk ?_
     refine X.region rfl ?_
     refine RL.move rfl ?_
     refine RL.add rfl rfl rfl (by omega) ?_
     refine RL.assign rfl ?_
     refine RL.nil ?_
     refine X.hyp ⟨rfl, g + 1, by omega, _, (by rw [show (pre ++ [x]).map bumpI ++ post = pre.map bumpI ++ bumpI x :: post by simp]; have := ins_set (pre.map bumpI) post x junk (IntKind.i64.wrap (x.op + 1)); rw [hpm] at this; rw [show icells (pre.map bumpI ++ bumpI x :: post) ++ junk = _ from this.symm]; exact List.Sublist.refl _), pre ++ [x], post, [(bq, cel 61 (icells ((pre ++ [x]).map bumpI ++ post) ++ junk))], (by simp [hpl]), (by rw [hlp]; simp), (hrq.upd (by decide) (by rw [ecells_len Ins.len, ecells_len Ins.len]; simp)), ⟨rfl, rfl, rfl, rfl, rfl, rfl, trivial⟩, rfl⟩
    ·replace hg : ¬ ((_ : Int) < _) := hg
     have hpe : post = [] := by
       have := congrArg List.length hlp
       rw [List.length_append] at this
       exact List.eq_nil_of_length_eq_zero (by omega)
     subst hpe
     rw [List.append_nil] at hlp
     subst hlp
     rw [List.append_nil] at hrq
     refine RL.nil ?_
     refine X.cond_f rfl ?_
     refine X.exit rfl ?_
     refine X.seq ?_
     refine X.region rfl ?_
     refine RL.loadOA rfl ag38 rfl (take_all h19) h19 ?_
     refine RL.move rfl ?_
     refine RL.fn (Lp := []) (Lr := Lq ++ [(b10, cel 38 (clCells cl.id (.slice Af cl.faces.length cf) cl.slots (.slice Am cl.methods.length cm))), (b4, cel 34 (gcells id)), (b1, cel 24 [.slice A m.length n])]) rfl rfl rfl en26 (List.Perm.refl _) (fun w1 hw1 => f_method cl _ hcz w1 (hcr0.st0 hw1) (i : Int)) rfl ?_
     rintro _ Lz (⟨i5, l5, hi5, hl5, A5, cp5, Lr5, rfl, hr5, hs5⟩ | ⟨hbad, rfl⟩)
     rotate_left
     · omega
     obtain rfl : i = i5 := by omega
     obtain rfl : l = l5 := by rw [hl] at hl5; exact Option.some.inj hl5
     refine RL.drop (L' := Lr5 ++ (Lq ++ [(b10, cel 38 (clCells cl.id (.slice Af cl.faces.length cf) cl.slots (.slice Am cl.methods.length cm))), (b4, cel 34 (gcells id)), (b1, cel 24 [.slice A m.length n])])) rfl (List.Sublist.append hs5 (List.Sublist.refl _)) ?_
     refine RL.move rfl ?_
     refine RL.extract rfl rfl rfl ?_
     refine RL.extract rfl rfl rfl ?_
     refine RL.assign rfl ?_
     refine RL.assign rfl ?_
     refine RL.nil ?_
     refine X.seq ?_
     refine X.seq ?_
     refine X.region rfl ?_
     refine RL.assign rfl ?_
     refine RL.nil ?_
     refine X.block ?_
     refine X.loop (γ := Nat) (fun h ρ L => (h ≤ l.length) ∧ Has ρ [(11, .slice A2 l.length cp2), (14, .slice A5 l.length cp5), (16, .int .i64 h)] ∧ L = Lr5 ++ (Lq ++ [(b10, cel 38 (clCells cl.id (.slice Af cl.faces.length cf) cl.slots (.slice Am cl.methods.length cm))), (b4, cel 34 (gcells id)), (b1, cel 24 [.slice A m.length n])])) (fun h => l.length - h) (0) ⟨_, (by repeat (first | exact List.Sublist.refl _ | exact List.nil_sublist _ | (rw [List.append_nil]; exact List.Sublist.refl _) | exact List.sublist_append_left _ _ | exact (List.sublist_append_left _ _).trans (List.sublist_append_left _ _) | apply List.Sublist.cons_cons | apply List.Sublist.cons | refine List.Sublist.trans ?_ (List.sublist_append_right _ _))), Nat.zero_le _, ⟨rfl, rfl, rfl, trivial⟩, rfl⟩ ?_
     rintro h _ _ ⟨hh0, hρ, rfl⟩
     obtain ⟨base, rfl⟩ := hρ.base
     clear hρ
     refine X.seq ?_
     refine X.seq ?_
     refine X.region rfl ?_
     refine RL.move rfl ?_
     refine RL.move rfl ?_
     refine RL.len rfl sl56 rfl ?_
     refine RL.cmp_s rfl rfl rfl rfl (fun hh => ?_) (fun hh => ?_)
     ·replace hh : (_ : Int) < _ := hh
      obtain ⟨x, hx⟩ : ∃ x, l[h]? = some x := ⟨_, List.getElem?_eq_getElem (by omega)⟩
      have hxb : (l.map bumpI)[h]? = some (bumpI x) := by rw [List.getElem?_map, hx]; rfl
      obtain ⟨b5, junk5, rfl, rfl⟩ := hr5.open (by omega)
      obtain ⟨bq, junk, rfl, rfl⟩ := hrq.open (by omega)
      refine RL.nil ?_
      refine X.cond_t rfl ?_
      refine X.skip ?_
      refine X.seq ?_
      refine X.block ?_
      refine X.seq ?_
      refine X.draw (by kernel_rfl) (by kernel_rfl) ?_
      refine RL.move rfl ?_
      refine RL.move rfl ?_
      refine RL.indexAddr rfl sl56 rfl rfl rfl rfl (by omega) ?_
      refine RL.fieldAddr rfl fd61_0 rfl ?_
      refine RL.loadO rfl sc3 rfl (ins_op_at hx) ?_
      refine RL.move rfl ?_
      refine RL.move rfl ?_
      refine RL.indexAddr rfl sl56 rfl rfl rfl rfl (by omega) ?_
      refine RL.fieldAddr rfl fd61_0 rfl ?_
      refine RL.loadO rfl sc3 rfl (ins_op_at hxb) ?_
      refine RL.cmp_f rfl rfl rfl rfl (by show ¬ ((_ : Int) = _); exact bump_ne _) ?_
      refine RL.nil ?_
      refine X.cond_f rfl ?_
      refine X.skip ?_
      refine X.blk ?_
      refine X.region rfl ?_
      refine RL.move rfl ?_
      refine RL.add rfl rfl rfl (by omega) ?_
      refine RL.assign rfl ?_
      refine RL.nil ?_
      refine X.hyp ⟨rfl, h + 1, by omega, _, (List.Sublist.refl _), by omega, ⟨rfl, rfl, rfl, trivial⟩, rfl⟩
     ·replace hh : ¬ ((_ : Int) < _) := hh
      refine RL.nil ?_
      refine X.cond_f rfl ?_
      refine X.exit rfl ?_
      refine X.seq ?_
      refine X.region rfl ?_
      refine RL.fn0 rfl rfl rfl en9 (fun w hw => (f_awake w)) rfl ?_
      rintro _ _ rfl
      refine RL.assign rfl ?_
      refine RL.nil ?_
      refine X.ret ?_
      exact ret1 rfl rfl
end Go.Proofs.Ytdnnnbjmjjdcfaa

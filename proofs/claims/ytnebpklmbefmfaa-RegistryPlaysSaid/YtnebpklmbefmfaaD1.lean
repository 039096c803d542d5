/- The reader takes bytes, and reads a class. -/
import Derived.Test.YtnebpklmbefmfaaA1
import Derived.Test.YtnebpklmbefmfaaOwned
set_option linter.unusedVariables false
set_option linter.unusedSimpArgs false
namespace Go.Proofs.Ytnebpklmbefmfaa
open Go.RowKit
attribute [local irreducible] X RL W Ctr
theorem f_stake (r : List Int) (A : Option Addr) (cp sb : Nat) (hcap : r.length ≤ cp) (hlen : r.length ≤ 1000000) (w : World) (n : Nat) (hn : n ≤ r.length) (hown : ∀ p ∈ [srcE sb A cp r], w.heap[p.1]? = some p.2) :
    Ctr Try.prog 54 [.pointer (some ⟨sb, 0, none⟩), .int .i64 n] w [srcE sb A cp r] fun v L => v = .slice A n cp ∧ L = [srcE sb (cutA A cp n) (cp - n) (r.drop n)] := by
 refine Ctr.intro (n := 31) Try.func54 rfl Try.ntmps54 (Nat.le_of_ble_eq_true rfl) hown (by simp [keys]) ?_
 refine X.seq ?_
 refine X.region rfl ?_
 refine RL.assign rfl ?_
 refine RL.nil ?_
 refine X.seq ?_
 refine X.seq ?_
 refine X.region rfl ?_
 refine RL.move rfl ?_
 refine RL.nilCheck rfl rfl ?_
 refine RL.fieldAddr rfl fd118_0 rfl ?_
 refine RL.loadO rfl sc84 rfl rfl ?_
 refine RL.len rfl sl84 rfl ?_
 refine RL.move rfl ?_
 refine RL.cmp_f rfl rfl rfl rfl (by show ¬ ((_ : Int) < _); omega) ?_
 refine RL.nil ?_
 refine X.cond_f rfl ?_
 refine X.skip ?_
 refine X.seq ?_
 refine X.region rfl ?_
 refine RL.move rfl ?_
 refine RL.nilCheck rfl rfl ?_
 refine RL.fieldAddr rfl fd118_0 rfl ?_
 refine RL.loadO rfl sc84 rfl rfl ?_
 refine RL.move rfl ?_
 refine RL.sliceHi (j := n) rfl sl84 rfl rfl rfl (by omega) ?_
 rw [hi_same]
 refine RL.assign rfl ?_
 refine RL.nil ?_
 refine X.seq ?_
 refine X.region rfl ?_
 refine RL.move rfl ?_
 refine RL.move rfl ?_
 refine RL.nilCheck rfl rfl ?_
 refine RL.fieldAddr rfl fd118_0 rfl ?_
 refine RL.loadO rfl sc84 rfl rfl ?_
 refine RL.move rfl ?_
 refine RL.sliceLo (j := n) rfl sl84 rfl rfl rfl (by omega) hcap ?_
 show RL _ _ _ _ _ (updO _ _ (.slice (cutA A cp n) (r.length - n) (cp - n))) _ _
 refine RL.nilCheck rfl rfl ?_
 refine RL.fieldAddr rfl fd118_0 rfl ?_
 refine RL.stS rfl rfl sc84.size rfl rfl (by first | exact Nat.zero_lt_one | decide | simp) ?_
 refine RL.nil ?_
 refine X.seq ?_
 refine X.region rfl ?_
 refine RL.move rfl ?_
 refine RL.assign rfl ?_
 refine RL.nil ?_
 refine X.ret ?_
 refine ret1 rfl ?_
 refine ⟨rfl, ?_⟩
 unfold srcE
 rw [List.length_drop]
 rfl
theorem f_stakeX (r : List Int) (A : Option Addr) (cp sb : Nat) (hcap : r.length ≤ cp) (hlen : r.length ≤ 1000000) (w : World) (n : Nat) (hn : r.length < n) (hn2 : n ≤ 1000) (hown : ∀ p ∈ [srcE sb A cp r], w.heap[p.1]? = some p.2) :
    CtrP Try.prog 54 [.pointer (some ⟨sb, 0, none⟩), .int .i64 n] w [srcE sb A cp r] (fun _ _ => False) True := by
 refine CtrP.intro (n := 31) Try.func54 rfl Try.ntmps54 (Nat.le_of_ble_eq_true rfl) hown (by simp [keys]) ?_
 refine X.seq ?_
 refine X.region rfl ?_
 refine RL.assign rfl ?_
 refine RL.nil ?_
 refine X.seq ?_
 refine X.seq ?_
 refine X.region rfl ?_
 refine RL.move rfl ?_
 refine RL.nilCheck rfl rfl ?_
 refine RL.fieldAddr rfl fd118_0 rfl ?_
 refine RL.loadO rfl sc84 rfl rfl ?_
 refine RL.len rfl sl84 rfl ?_
 refine RL.move rfl ?_
 refine RL.cmp_t rfl rfl rfl rfl (by show ((_ : Int) < _); omega) ?_
 refine RL.nil ?_
 refine X.cond_t rfl ?_
 refine X.region rfl ?_
 refine RL.bldC (vs := []) (cells := []) rfl rfl (fun w => by kernel_rfl) ?_
 refine RL.mkIface rfl rfl (fun w => by kernel_rfl) ?_
 refine RL.panicI rfl rfl rfl ?_
 rw [xit_panic]
 exact pan_end trivial
theorem f_scount (x : Int) (hx : 0 ≤ x ∧ x ≤ 255) (r : List Int) (A : Option Addr) (cp sb : Nat) (hcap : (x :: r).length ≤ cp) (hlen : (x :: r).length ≤ 1000000) (w : World) (hrd : Rd w A (gcells (x :: r))) (hnb : ∀ a, A = some a → a.block ≠ sb) (hown : ∀ p ∈ [srcE sb A cp (x :: r)], w.heap[p.1]? = some p.2) :
    Ctr Try.prog 48 [.pointer (some ⟨sb, 0, none⟩)] w [srcE sb A cp (x :: r)] fun v L => v = .int .i64 x ∧ L = [srcE sb (cutA A cp 1) (cp - 1) r] := by
 obtain ⟨bb, oo, hA0, hc⟩ := hrd
 obtain rfl := hA0 (by simp [gcells])
 have hnb2 : bb ≠ sb := hnb _ rfl
 refine Ctr.intro (n := 8) Try.func48 rfl Try.ntmps48 (Nat.le_of_ble_eq_true rfl) hown (by simp [keys]) ?_
 refine X.seq ?_
 refine X.region rfl ?_
 refine RL.assign rfl ?_
 refine RL.nil ?_
 refine X.seq ?_
 refine X.region rfl ?_
 refine RL.move rfl ?_
 refine RL.fn (Lp := [srcE sb (some ⟨bb, oo, none⟩) cp (x :: r)]) (Lr := []) rfl rfl rfl en54 (List.Perm.refl _) (fun w1 hw1 => f_stake (x :: r) _ cp sb hcap hlen w1 1 (by simp) (fun p hp => hw1.own p (by simpa using hp))) rfl ?_
 rintro _ _ ⟨rfl, rfl⟩
 refine RL.indexAddr rfl sl84 rfl rfl rfl (show (0 : Int) = ((0 : Nat) : Int) from rfl) (by decide) ?_
 refine RL.loadI rfl sc5 rfl (hc 0 (.int .u8 x) rfl) (by simpa [keys] using hnb2) ?_
 refine RL.convE rfl Try.underlying5 Try.underlying3 rfl (wrap_i64 (by omega)) ?_
 refine RL.assign rfl ?_
 refine RL.nil ?_
 refine X.ret ?_
 refine ret1 rfl ?_
 exact ⟨rfl, rfl⟩
theorem f_scountX (r : List Int) (A : Option Addr) (cp sb : Nat) (hcap : r.length ≤ cp) (hlen : r.length ≤ 1000000) (w : World) (h0 : r = []) (hown : ∀ p ∈ [srcE sb A cp r], w.heap[p.1]? = some p.2) :
    CtrP Try.prog 48 [.pointer (some ⟨sb, 0, none⟩)] w [srcE sb A cp r] (fun _ _ => False) True := by
 subst h0
 refine CtrP.intro (n := 8) Try.func48 rfl Try.ntmps48 (Nat.le_of_ble_eq_true rfl) hown (by simp [keys]) ?_
 refine X.seq ?_
 refine X.region rfl ?_
 refine RL.assign rfl ?_
 refine RL.nil ?_
 refine X.seq ?_
 refine X.region rfl ?_
 refine RL.move rfl ?_
 exact RL.fnP (Lp := [srcE sb A cp []]) (Lr := []) rfl rfl rfl en54 (List.Perm.refl _) (fun w1 hw1 => f_stakeX [] A cp sb hcap hlen w1 1 (by decide) (by decide) (fun p hp => hw1.own p (by simpa using hp))) rfl (fun _ => by rw [xit_panic]; exact pan_end trivial) (fun v L h => h.elim)
theorem f_number (r : List Int) (hr : r.length = 4) (hb : Byt r) (A : Option Addr) (c : Nat) (hc4 : 4 ≤ c) (w : World) (hrd : Rd w A (gcells r)) :
    Ctr Try.prog 55 [.slice A 4 c] w [] fun v _ => v = .int .u32 (num32 (r.getD 0 0) (r.getD 1 0) (r.getD 2 0) (r.getD 3 0)) := by
 obtain ⟨bb, oo, hA0, hc⟩ := hrd
 obtain rfl := hA0 (by rw [gcells_len]; omega)
 refine Ctr.intro0 (n := 23) Try.func55 rfl Try.ntmps55 (Nat.le_of_ble_eq_true rfl) ?_
 refine X.seq ?_
 refine X.region rfl ?_
 refine RL.assign rfl ?_
 refine RL.nil ?_
 refine X.seq ?_
 refine X.region rfl ?_
 refine RL.assign rfl ?_
 refine RL.nil ?_
 refine X.seq ?_
 refine X.seq ?_
 refine X.region rfl ?_
 refine RL.move rfl ?_
 refine RL.sliceHi1 (j := 4) rfl sl84 rfl rfl rfl hc4 (by omega) ?_
 refine RL.len rfl sl84 rfl ?_
 refine RL.move rfl ?_
 refine RL.nil ?_
 refine X.block ?_
 refine X.loop (γ := Nat) (fun g ρ L => (g ≤ 4) ∧ Has ρ [(3, .int .u32 (numS r g)), (7, .slice (some ⟨bb, oo, none⟩) 4 c), (8, .int .i64 4), (9, .int .i64 g)] ∧ L = []) (fun g => 4 - g) (0) ⟨_, (by repeat (first | exact sb0 _ | exact sb1 _ | (rw [List.append_nil]; exact sb0 _) | exact sb2 _ _ | exact sb3 _ _ _ | apply sb4 | apply sb5 | apply sb6)), Nat.zero_le _, ⟨rfl, rfl, rfl, rfl, trivial⟩, rfl⟩ ?_
 rintro g _ _ ⟨q1, hρ, rfl⟩
 obtain ⟨base, rfl⟩ := hρ.base
 clear hρ
 refine X.seq ?_
 refine X.region rfl ?_
 refine RL.cmp_s rfl rfl rfl rfl (fun hg => ?_) (fun hg => ?_)
 ·replace hg : (_ : Int) < _ := hg
  obtain ⟨v, hv⟩ : ∃ v, r[g]? = some v := ⟨_, List.getElem?_eq_getElem (by omega)⟩
  have hvd : r.getD g 0 = v := by rw [List.getD_eq_getElem?_getD, hv]; rfl
  obtain ⟨hv0, hv1⟩ := hb v (List.mem_of_getElem? hv)
  obtain ⟨hs0, hs1⟩ := numS_range hb g
  refine RL.nil ?_
  refine X.seq ?_
  refine X.cond_t rfl ?_
  refine X.skip ?_
  refine X.seq ?_
  refine X.block ?_
  refine X.seq ?_
  refine X.region rfl ?_
  refine RL.move rfl ?_
  refine RL.indexAddr rfl sl84 rfl rfl rfl rfl (by omega) ?_
  refine RL.loadI rfl sc5 rfl (by rw [Nat.mul_one]; exact hc g _ (gcells_get hv)) (by simp) ?_
  refine RL.assign rfl ?_
  refine RL.assign rfl ?_
  refine RL.nil ?_
  refine X.region rfl ?_
  refine RL.move rfl ?_
  refine RL.move rfl ?_
  refine RL.convE rfl Try.underlying5 Try.underlying55 rfl (b := v) (by rw [u32_eq]; omega) ?_
  refine RL.move rfl ?_
  refine RL.mul rfl rfl rfl (by omega) ?_
  refine RL.shlN (n := 8 * g) rfl rfl rfl (by omega) (by show 8 * g ≤ 32; omega) ?_
  refine RL.orN rfl rfl rfl (r := numS r (g + 1)) (by simp only [numS]; rw [hvd]; exact or_bytes (by omega) hs0 hs1 hv0 hv1) ?_
  refine RL.assign rfl ?_
  refine RL.nil ?_
  refine X.blk ?_
  refine X.region rfl ?_
  refine RL.add rfl rfl rfl (by omega) ?_
  refine RL.move rfl ?_
  refine RL.nil ?_
  refine X.hyp ⟨rfl, g + 1, by omega, _, (by repeat (first | exact sb0 _ | exact sb1 _ | (rw [List.append_nil]; exact sb0 _) | exact sb2 _ _ | exact sb3 _ _ _ | apply sb4 | apply sb5 | apply sb6)), by omega, ⟨rfl, rfl, rfl, rfl, trivial⟩, rfl⟩
 replace hg : ¬ ((_ : Int) < _) := hg
 have hgg : g = 4 := by omega
 subst hgg
 refine RL.nil ?_
 refine X.seq ?_
 refine X.cond_f rfl ?_
 refine X.exit rfl ?_
 refine X.seq ?_
 refine X.region rfl ?_
 refine RL.move rfl ?_
 refine RL.assign rfl ?_
 refine RL.nil ?_
 refine X.ret ?_
 refine ret1 rfl ?_
 show (_ : Value) = _
 rw [numS_four]
theorem f_number4 {r : List Int} (hb : Byt r) (h6 : ¬ r.length < 6) {w0 w1 : World} {S : List Nat} {L : List Ent} {b o c : Nat} (hc : CellsAt w0 b o (gcells r)) (hS : b ∉ S) (hst : St w0 S w1 L) (hc4 : 4 ≤ c) : Ctr Try.prog 55 [.slice (some ⟨b, o + 2, none⟩) 4 c] w1 [] fun v _ => v = .int .u32 (num32 (r.getD 2 0) (r.getD 3 0) (r.getD 4 0) (r.getD 5 0)) := by
  obtain ⟨h1, h2⟩ := take4_d h6
  have hrd : Rd w1 (some ⟨b, o + 2, none⟩) (gcells ((r.drop 2).take 4)) := by
    refine Rd.firstn (r := r.drop 2) ⟨b, o + 2, fun _ => rfl, fun j v hv => ?_⟩ (by rw [List.length_drop]; omega)
    rw [Nat.add_assoc]
    refine hst.cellI (hc _ _ ?_) hS
    simp only [gcells, List.map_drop, List.getElem?_drop] at hv ⊢
    exact hv
  refine (f_number _ h1 ((hb.drop 2).take 4) _ c hc4 w1 hrd).mono fun v L h => ?_
  rw [h, h2 0 (by decide), h2 1 (by decide), h2 2 (by decide), h2 3 (by decide)]
set_option maxHeartbeats 2000000 in
set_option maxRecDepth 20000 in
theorem f_sclass (r : List Int) (A : Option Addr) (cp sb : Nat) (w : World) (hsrc : Src w sb A cp r) (hown : ∀ p ∈ [srcE sb A cp r], w.heap[p.1]? = some p.2) :
    CtrP Try.prog 49 [.pointer (some ⟨sb, 0, none⟩)] w [srcE sb A cp r] (fun v L => ∃ cl cs A' cp' r' Lo, pClass r = some (cl, r') ∧ v = .agg cs.toArray ∧ ClO cl cs Lo ∧ Nxt A cp r A' cp' r' ∧ ∃ L1 : List Ent, L1.Sublist L ∧ L1.Perm ([srcE sb A' cp' r'] ++ Lo)) (pClass r = none) := by
 have nx0 : Nxt A cp r A cp r := Nxt.refl hsrc.cap
 refine CtrP.intro (n := 68) Try.func49 rfl Try.ntmps49 (Nat.le_of_ble_eq_true rfl) hown (by simp [keys]) ?_
 refine X.seq ?_
 refine X.region rfl ?_
 refine RL.alloc rfl rfl zt69 ?_
 intro b2 hb2
 dsimp only at hb2
 refine RL.nil ?_
 refine X.seq ?_
 refine X.region rfl ?_
 refine RL.move rfl ?_
 by_cases h16 : r.length < 16
 ·exact RL.fnP (Lp := [srcE sb A cp r]) (Lr := [(b2, cel 69 [.int .u8 0, .int .u8 0, .int .u8 0, .int .u8 0, .int .u8 0, .int .u8 0, .int .u8 0, .int .u8 0, .int .u8 0, .int .u8 0, .int .u8 0, .int .u8 0, .int .u8 0, .int .u8 0, .int .u8 0, .int .u8 0, .slice none 0 0, .int .i64 0, .slice none 0 0])]) rfl rfl rfl en54 (by classical exact List.perm_iff_count.2 (fun z => by simp only [List.count_append, List.count_cons, List.count_nil, List.cons_append, List.nil_append, List.set_cons_zero, List.set_cons_succ] <;> omega)) (fun w1 hw1 => f_stakeX r A cp sb (hsrc).cap (hsrc).len w1 16 (by omega) (by decide) (fun p hp => hw1.own p (List.mem_append_left _ hp))) rfl (fun _ => by rw [xit_panic]; exact pan_end (by unfold pClass; rw [if_pos h16])) (fun v L h => h.elim)
 have hid := take_16 h16
 obtain ⟨bb, oo, eA, hcel, hbb⟩ := hsrc.at (by omega)
 refine RL.fn (Lp := [srcE sb A cp r]) (Lr := [(b2, cel 69 [.int .u8 0, .int .u8 0, .int .u8 0, .int .u8 0, .int .u8 0, .int .u8 0, .int .u8 0, .int .u8 0, .int .u8 0, .int .u8 0, .int .u8 0, .int .u8 0, .int .u8 0, .int .u8 0, .int .u8 0, .int .u8 0, .slice none 0 0, .int .i64 0, .slice none 0 0])]) rfl rfl rfl en54 (by classical exact List.perm_iff_count.2 (fun z => by simp only [List.count_append, List.count_cons, List.count_nil, List.cons_append, List.nil_append, List.set_cons_zero, List.set_cons_succ] <;> omega)) (fun w1 hw1 => f_stake r A cp sb (hsrc).cap (hsrc).len w1 16 (by omega) (fun p hp => hw1.own p (List.mem_append_left _ hp))) rfl ?_
 rintro _ _ ⟨rfl, rfl⟩
 obtain ⟨A1, cp1, r1, nx1, er1, eA1⟩ : ∃ a b x, ∃ _ : Nxt A cp r a b x, ∃ _ : x = (r.drop 16), srcE sb (cutA A cp 16) (cp - 16) (r.drop 16) = srcE sb a b x := ⟨_, _, _, nx0.trans (Nxt.cut (n := 16) (r := r) (by first | omega | (simp; done) | (simp; omega)) nx0.cap), rfl, rfl⟩
 rw [eA1]
 have hs1 := hsrc.nxt nx1
 refine RL.toArr rfl Try.underlying47 (by show Value.slice A 16 cp = _; rw [eA]) (Nat.le_refl _) ?_
 refine RL.loadIA rfl ag47 rfl (cells_take hcel) hbb (gcells_length hid) ?_
 refine RL.bldC (vs := [(0, .agg (gcells (r.take 16)).toArray)]) (cells := clCells (r.take 16) (.slice none 0 0) 0 (.slice none 0 0)) rfl rfl (build_cl hid) ?_
 refine RL.alloc rfl rfl zt69 ?_
 intro b3 hb3
 dsimp only at hb3
 refine RL.stA rfl rfl ag69.size rfl rfl (clCells_len hid) rfl clCells_one ?_
 refine RL.nil ?_
 refine X.seq ?_
 refine X.seq ?_
 refine X.region rfl ?_
 refine RL.move rfl ?_
 rcases r1 with _ | ⟨nf, r2⟩
 ·have hN : pClass r = none := by unfold pClass; rw [if_neg h16, ← er1]; rfl
  exact RL.fnP (Lp := [srcE sb A1 cp1 []]) (Lr := [(b3, cel 69 (clCells (r.take 16) (.slice none 0 0) (0) (.slice none 0 0))), (b2, cel 69 [.int .u8 0, .int .u8 0, .int .u8 0, .int .u8 0, .int .u8 0, .int .u8 0, .int .u8 0, .int .u8 0, .int .u8 0, .int .u8 0, .int .u8 0, .int .u8 0, .int .u8 0, .int .u8 0, .int .u8 0, .int .u8 0, .slice none 0 0, .int .i64 0, .slice none 0 0])]) rfl rfl rfl en48 (by classical exact List.perm_iff_count.2 (fun z => by simp only [List.count_append, List.count_cons, List.count_nil, List.cons_append, List.nil_append, List.set_cons_zero, List.set_cons_succ] <;> omega)) (fun w1 hw1 => f_scountX [] A1 cp1 sb (hs1).cap (hs1).len w1 rfl (fun p hp => hw1.own p (List.mem_append_left _ hp))) rfl (fun _ => by rw [xit_panic]; exact pan_end (hN)) (fun v L h => h.elim)
 obtain ⟨hnf0, hnf1⟩ := hs1.byt nf (by simp)
 refine RL.fn (Lp := [srcE sb A1 cp1 (nf :: r2)]) (Lr := [(b3, cel 69 (clCells (r.take 16) (.slice none 0 0) (0) (.slice none 0 0))), (b2, cel 69 [.int .u8 0, .int .u8 0, .int .u8 0, .int .u8 0, .int .u8 0, .int .u8 0, .int .u8 0, .int .u8 0, .int .u8 0, .int .u8 0, .int .u8 0, .int .u8 0, .int .u8 0, .int .u8 0, .int .u8 0, .int .u8 0, .slice none 0 0, .int .i64 0, .slice none 0 0])]) rfl rfl rfl en48 (by classical exact List.perm_iff_count.2 (fun z => by simp only [List.count_append, List.count_cons, List.count_nil, List.cons_append, List.nil_append, List.set_cons_zero, List.set_cons_succ] <;> omega)) (fun w1 hw1 => f_scount nf ((hs1).byt nf (by simp)) r2 A1 cp1 sb (hs1).cap (hs1).len w1 ((hs1).rd.stN hw1 (fun b o he => by have := (hs1).nb _ he; simpa [keys] using this)) (hs1).nb (fun p hp => hw1.own p (List.mem_append_left _ hp))) rfl ?_
 rintro _ _ ⟨rfl, rfl⟩
 obtain ⟨A2, cp2, nx2, eA2⟩ : ∃ a b, ∃ _ : Nxt A cp r a b r2, srcE sb (cutA A1 cp1 1) (cp1 - 1) r2 = srcE sb a b r2 := ⟨_, _, nx1.trans (Nxt.cut (n := 1) (r := (nf :: r2)) (by first | omega | (simp; done) | (simp; omega)) nx1.cap), rfl⟩
 rw [eA2]
 have hs2 := hsrc.nxt nx2
 have hC1 : pClass r = (pN pFace nf.toNat r2).bind fun b => (pCount b.2).bind fun c => (pCount c.2).bind fun d => (pN pMeth d.1.toNat d.2).map fun e => (⟨r.take 16, b.1, c.1, e.1⟩, e.2) := by unfold pClass; rw [if_neg h16, ← er1]; rfl
 refine RL.perm (L' := [] ++ [(b3, cel 69 (clCells (r.take 16) (.slice none 0 0) (0) (.slice none 0 0))), (b2, cel 69 [.int .u8 0, .int .u8 0, .int .u8 0, .int .u8 0, .int .u8 0, .int .u8 0, .int .u8 0, .int .u8 0, .int .u8 0, .int .u8 0, .int .u8 0, .int .u8 0, .int .u8 0, .int .u8 0, .int .u8 0, .int .u8 0, .slice none 0 0, .int .i64 0, .slice none 0 0]), srcE sb A2 cp2 r2]) rfl (by classical exact List.perm_iff_count.2 (fun z => by simp only [List.count_append, List.count_cons, List.count_nil, List.cons_append, List.nil_append, List.set_cons_zero, List.set_cons_succ] <;> omega)) ?_
 refine RL.move rfl ?_
 refine RL.nil ?_
 refine X.block ?_
 refine X.loop (γ := Nat) (fun g ρ L => ∃ fs : List Face, ∃ r3 : List Int, ∃ Af : Option Addr, ∃ cf : Nat, ∃ Lf : List Ent, ∃ A3 : Option Addr, ∃ cp3 : Nat, (g ≤ nf.toNat) ∧ (pN pFace g r2 = some (fs, r3)) ∧ (∀ f ∈ fs, FaceOk f) ∧ (Row 93 17 (.slice Af (fs).length cf) (fcells (fs)) Lf) ∧ (Nxt A cp r A3 cp3 r3) ∧ Has ρ [(0, .pointer (some ⟨sb, 0, none⟩)), (2, .pointer (some ⟨b2, 0, none⟩)), (3, .pointer (some ⟨b3, 0, none⟩)), (12, .int .i64 nf), (13, .int .i64 g)] ∧ L = Lf ++ [(b3, cel 69 (clCells (r.take 16) (.slice Af fs.length cf) (0) (.slice none 0 0))), (b2, cel 69 [.int .u8 0, .int .u8 0, .int .u8 0, .int .u8 0, .int .u8 0, .int .u8 0, .int .u8 0, .int .u8 0, .int .u8 0, .int .u8 0, .int .u8 0, .int .u8 0, .int .u8 0, .int .u8 0, .int .u8 0, .int .u8 0, .slice none 0 0, .int .i64 0, .slice none 0 0]), srcE sb A3 cp3 r3]) (fun g => nf.toNat - g) (0) ⟨_, (by repeat (first | exact sb0 _ | exact sb1 _ | (rw [List.append_nil]; exact sb0 _) | exact sb2 _ _ | exact sb3 _ _ _ | apply sb4 | apply sb5 | apply sb6)), [], r2, none, 0, [], A2, cp2, Nat.zero_le _, rfl, by simp, Row.nil, nx2, ⟨rfl, rfl, rfl, rfl, rfl, trivial⟩, rfl⟩ ?_
 rintro g _ _ ⟨fs, r3, Af, cf, Lf, A3, cp3, hg, hpf, hfo, hrf, nx3, hρ, rfl⟩
 obtain ⟨base, rfl⟩ := hρ.base
 clear hρ
 have hs3 := hsrc.nxt nx3
 have hfl := pN_len hpf
 refine X.seq ?_
 refine X.region rfl ?_
 refine RL.cmp_s rfl rfl rfl rfl (fun hlt => ?_) (fun hlt => ?_)
 ·replace hlt : (_ : Int) < _ := hlt
  have hgn : g < nf.toNat := by omega
  have hbad : pFace r3 = none → pClass r = none := fun hx => by rw [hC1, pN_fail hgn hpf hx]; rfl
  refine RL.nil ?_
  refine X.seq ?_
  refine X.cond_t rfl ?_
  refine X.skip ?_
  refine X.seq ?_
  refine X.block ?_
  by_cases hs16 : r3.length < 16
  ·have hN := hbad (by unfold pFace; rw [if_pos (by omega)])
   refine X.set [.val (.pointer (some ⟨b3, 0 + 16, none⟩)), .val (.slice Af fs.length cf), .val (.pointer (some ⟨sb, 0, none⟩)), .any, .any, .any, .val (.pointer (some ⟨sb, 0, none⟩)), .any, .any, .any, .any, .any, .any, .any] [[], [0], [], [2], [2, 3], [2, 3, 4], [], [2, 3, 6], [2, 3, 6, 7], [2, 3, 4, 5, 6, 7, 8], [2, 3, 4, 5, 6, 7, 8, 9], [0, 1, 2, 3, 4, 5, 6, 7, 8, 9, 10], [0, 1, 2, 3, 4, 5, 6, 7, 8, 9, 10, 11], [0, 1, 2, 3, 4, 5, 6, 7, 8, 9, 10, 11, 12]] (fun D ρ L => (D 3 = false ∧ True ∧ Has ρ [] ∧ L.Perm ((Lf) ++ (([(b3, cel 69 (clCells (r.take 16) (.slice Af fs.length cf) (0) (.slice none 0 0)))]) ++ (([(b2, cel 69 [.int .u8 0, .int .u8 0, .int .u8 0, .int .u8 0, .int .u8 0, .int .u8 0, .int .u8 0, .int .u8 0, .int .u8 0, .int .u8 0, .int .u8 0, .int .u8 0, .int .u8 0, .int .u8 0, .int .u8 0, .int .u8 0, .slice none 0 0, .int .i64 0, .slice none 0 0])]) ++ ([srcE sb A3 cp3 r3]))))) ∨ (D 3 = true ∧ True ∧ (False) ∧ Has ρ [] ∧ L.Perm ((Lf) ++ (([(b3, cel 69 (clCells (r.take 16) (.slice Af fs.length cf) (0) (.slice none 0 0)))]) ++ (([(b2, cel 69 [.int .u8 0, .int .u8 0, .int .u8 0, .int .u8 0, .int .u8 0, .int .u8 0, .int .u8 0, .int .u8 0, .int .u8 0, .int .u8 0, .int .u8 0, .int .u8 0, .int .u8 0, .int .u8 0, .int .u8 0, .int .u8 0, .slice none 0 0, .int .i64 0, .slice none 0 0])]) ++ ([srcE sb A3 cp3 r3])))))) rfl (by kernel_rfl) (by kernel_rfl) (by kernel_rfl) (by kernel_rfl) (fun D hD => .inl ⟨hD 3, trivial, trivial, (List.Perm.refl _)⟩) ⟨?_, ?_, ?_, ?_, ?_, ?_, ?_, ?_, ?_, ?_, ?_, ?_, ?_, ?_, trivial⟩ ?_
   ·intro ρ L D hS
    rcases hS.sp with ⟨e3, -, hρ, hL⟩ | ⟨e3, -, hp0, hρ, hL⟩
    ·have u3 : ρ 3 = .pointer (some ⟨b3, 0, none⟩) := hS.fix 3 (by decide)
     clear hS hρ
     obtain ⟨base, rfl⟩ := Has.base (ρ := ρ) (l := [(3, .pointer (some ⟨b3, 0, none⟩))]) ⟨u3, trivial⟩
     clear u3
     refine RL.perm rfl hL.symm ?_
     clear hL
     refine RL.fieldAddr rfl fd69_1 rfl ?_
     refine RL.nil ?_
     exact ⟨rfl, ⟨_, rfl, rfl⟩, .inl ⟨e3, trivial, trivial, List.Perm.refl _⟩⟩
    exact hp0.elim
   ·intro ρ L D hS
    rcases hS.sp with ⟨e3, -, hρ, hL⟩ | ⟨e3, -, hp0, hρ, hL⟩
    ·have u15 : ρ 15 = .pointer (some ⟨b3, 0 + 16, none⟩) := hS.dep ⟨0, Ground.data⟩ (by simp) rfl _ _ rfl rfl
     clear hS hρ
     obtain ⟨base, rfl⟩ := Has.base (ρ := ρ) (l := [(15, .pointer (some ⟨b3, 0 + 16, none⟩))]) ⟨u15, trivial⟩
     clear u15
     refine RL.perm rfl hL.symm ?_
     clear hL
     refine RL.loadO rfl sc66 rfl (clCells_f hid) ?_
     refine RL.nil ?_
     exact ⟨rfl, ⟨_, rfl, rfl⟩, .inl ⟨e3, trivial, trivial, List.Perm.refl _⟩⟩
    exact hp0.elim
   ·intro ρ L D hS
    rcases hS.sp with ⟨e3, -, hρ, hL⟩ | ⟨e3, -, hp0, hρ, hL⟩
    ·have u0 : ρ 0 = .pointer (some ⟨sb, 0, none⟩) := hS.fix 0 (by decide)
     clear hS hρ
     obtain ⟨base, rfl⟩ := Has.base (ρ := ρ) (l := [(0, .pointer (some ⟨sb, 0, none⟩))]) ⟨u0, trivial⟩
     clear u0
     refine RL.perm rfl hL.symm ?_
     clear hL
     refine RL.move rfl ?_
     refine RL.nil ?_
     exact ⟨rfl, ⟨_, rfl, rfl⟩, .inl ⟨e3, trivial, trivial, List.Perm.refl _⟩⟩
    exact hp0.elim
   ·intro ρ L D hS
    rcases hS.sp with ⟨e3, -, hρ, hL⟩ | ⟨e3, -, hp0, hρ, hL⟩
    ·have u17 : ρ 17 = .pointer (some ⟨sb, 0, none⟩) := hS.dep ⟨2, Ground.data⟩ (by simp) rfl _ _ rfl rfl
     clear hS hρ
     obtain ⟨base, rfl⟩ := Has.base (ρ := ρ) (l := [(17, .pointer (some ⟨sb, 0, none⟩))]) ⟨u17, trivial⟩
     clear u17
     refine RL.perm rfl hL.symm ?_
     clear hL
     exact RL.fnP (Lp := [srcE sb A3 cp3 r3]) (Lr := Lf ++ [(b3, cel 69 (clCells (r.take 16) (.slice Af fs.length cf) (0) (.slice none 0 0))), (b2, cel 69 [.int .u8 0, .int .u8 0, .int .u8 0, .int .u8 0, .int .u8 0, .int .u8 0, .int .u8 0, .int .u8 0, .int .u8 0, .int .u8 0, .int .u8 0, .int .u8 0, .int .u8 0, .int .u8 0, .int .u8 0, .int .u8 0, .slice none 0 0, .int .i64 0, .slice none 0 0])]) rfl rfl rfl en54 (by classical exact List.perm_iff_count.2 (fun z => by simp only [List.count_append, List.count_cons, List.count_nil, List.cons_append, List.nil_append, List.set_cons_zero, List.set_cons_succ] <;> omega)) (fun w1 hw1 => f_stakeX r3 A3 cp3 sb (hs3).cap (hs3).len w1 16 (by omega) (by decide) (fun p hp => hw1.own p (List.mem_append_left _ hp))) rfl (fun _ => by rw [xit_panic]; exact pan_end (hN)) (fun v L h => h.elim)
    exact hp0.elim
   ·intro ρ L D hS
    rcases hS.sp with ⟨e3, -, hρ, hL⟩ | ⟨e3, -, hp0, hρ, hL⟩
    ·exact hS.lo 3 (by kernel_rfl) e3
    exact hp0.elim
   ·intro ρ L D hS
    rcases hS.sp with ⟨e3, -, hρ, hL⟩ | ⟨e3, -, hp0, hρ, hL⟩
    ·exact hS.lo 3 (by kernel_rfl) e3
    exact hp0.elim
   ·intro ρ L D hS
    rcases hS.sp with ⟨e3, -, hρ, hL⟩ | ⟨e3, -, hp0, hρ, hL⟩
    ·have u0 : ρ 0 = .pointer (some ⟨sb, 0, none⟩) := hS.fix 0 (by decide)
     clear hS hρ
     obtain ⟨base, rfl⟩ := Has.base (ρ := ρ) (l := [(0, .pointer (some ⟨sb, 0, none⟩))]) ⟨u0, trivial⟩
     clear u0
     refine RL.perm rfl hL.symm ?_
     clear hL
     refine RL.move rfl ?_
     refine RL.nil ?_
     exact ⟨rfl, ⟨_, rfl, rfl⟩, .inl ⟨e3, trivial, trivial, List.Perm.refl _⟩⟩
    exact hp0.elim
   ·intro ρ L D hS
    rcases hS.sp with ⟨e3, -, hρ, hL⟩ | ⟨e3, -, hp0, hρ, hL⟩
    ·exact hS.lo 3 (by kernel_rfl) e3
    exact hp0.elim
   ·intro ρ L D hS
    rcases hS.sp with ⟨e3, -, hρ, hL⟩ | ⟨e3, -, hp0, hρ, hL⟩
    ·exact hS.lo 3 (by kernel_rfl) e3
    exact hp0.elim
   ·intro ρ L D hS
    rcases hS.sp with ⟨e3, -, hρ, hL⟩ | ⟨e3, -, hp0, hρ, hL⟩
    ·exact hS.lo 3 (by kernel_rfl) e3
    exact hp0.elim
   ·intro ρ L D hS
    rcases hS.sp with ⟨e3, -, hρ, hL⟩ | ⟨e3, -, hp0, hρ, hL⟩
    ·exact hS.lo 3 (by kernel_rfl) e3
    exact hp0.elim
   ·intro ρ L D hS
    rcases hS.sp with ⟨e3, -, hρ, hL⟩ | ⟨e3, -, hp0, hρ, hL⟩
    ·exact hS.lo 3 (by kernel_rfl) e3
    exact hp0.elim
   ·intro ρ L D hS
    rcases hS.sp with ⟨e3, -, hρ, hL⟩ | ⟨e3, -, hp0, hρ, hL⟩
    ·exact hS.lo 3 (by kernel_rfl) e3
    exact hp0.elim
   ·intro ρ L D hS
    rcases hS.sp with ⟨e3, -, hρ, hL⟩ | ⟨e3, -, hp0, hρ, hL⟩
    ·exact hS.lo 3 (by kernel_rfl) e3
    exact hp0.elim
   intro ρ L D hD hT hfix hsp
   rcases hsp with ⟨e3, -, hρ, hL⟩ | ⟨e3, -, hp0, hρ, hL⟩
   ·exact done_no hD 3 rfl e3
   exact hp0.elim
  have hid3 := take_16 hs16
  obtain ⟨b4, o4, eA3, hcel3, hb4⟩ := hs3.at (by omega)
  obtain ⟨A4, cp4, r4, nx4, er4, eA4⟩ : ∃ a b x, ∃ _ : Nxt A cp r a b x, ∃ _ : x = (r3.drop 16), srcE sb (cutA A3 cp3 16) (cp3 - 16) (r3.drop 16) = srcE sb a b x := ⟨_, _, _, nx3.trans (Nxt.cut (n := 16) (r := r3) (by omega) nx3.cap), rfl, rfl⟩
  have hs4 := hsrc.nxt nx4
  rcases r4 with _ | ⟨bv, r5⟩
  ·have hN := hbad (by unfold pFace; rw [if_pos (by have := congrArg List.length er4; rw [List.length_drop] at this; simp at this; omega)])
   refine X.set [.val (.pointer (some ⟨b3, 0 + 16, none⟩)), .val (.slice Af fs.length cf), .val (.pointer (some ⟨sb, 0, none⟩)), .any, .val (.pointer (some ⟨b4, o4, none⟩)), .val (.agg (gcells (r3.take 16)).toArray), .val (.pointer (some ⟨sb, 0, none⟩)), .any, .any, .any, .any, .any, .any, .any] [[], [0], [], [2], [2, 3], [2, 3, 4], [], [2, 3, 6], [2, 3, 6, 7], [2, 3, 4, 5, 6, 7, 8], [2, 3, 4, 5, 6, 7, 8, 9], [0, 1, 2, 3, 4, 5, 6, 7, 8, 9, 10], [0, 1, 2, 3, 4, 5, 6, 7, 8, 9, 10, 11], [0, 1, 2, 3, 4, 5, 6, 7, 8, 9, 10, 11, 12]] (fun D ρ L => (D 3 = false ∧ D 7 = false ∧ True ∧ Has ρ [] ∧ L.Perm ((Lf) ++ (([(b3, cel 69 (clCells (r.take 16) (.slice Af fs.length cf) (0) (.slice none 0 0)))]) ++ (([(b2, cel 69 [.int .u8 0, .int .u8 0, .int .u8 0, .int .u8 0, .int .u8 0, .int .u8 0, .int .u8 0, .int .u8 0, .int .u8 0, .int .u8 0, .int .u8 0, .int .u8 0, .int .u8 0, .int .u8 0, .int .u8 0, .int .u8 0, .slice none 0 0, .int .i64 0, .slice none 0 0])]) ++ ([srcE sb A3 cp3 r3]))))) ∨ (D 3 = true ∧ D 7 = false ∧ True ∧ Has ρ [(18, .slice A3 16 cp3)] ∧ L.Perm ((Lf) ++ (([(b3, cel 69 (clCells (r.take 16) (.slice Af fs.length cf) (0) (.slice none 0 0)))]) ++ (([(b2, cel 69 [.int .u8 0, .int .u8 0, .int .u8 0, .int .u8 0, .int .u8 0, .int .u8 0, .int .u8 0, .int .u8 0, .int .u8 0, .int .u8 0, .int .u8 0, .int .u8 0, .int .u8 0, .int .u8 0, .int .u8 0, .int .u8 0, .slice none 0 0, .int .i64 0, .slice none 0 0])]) ++ ([srcE sb A4 cp4 []]))))) ∨ (D 3 = true ∧ D 7 = true ∧ True ∧ (False) ∧ Has ρ [(18, .slice A3 16 cp3)] ∧ L.Perm ((Lf) ++ (([(b3, cel 69 (clCells (r.take 16) (.slice Af fs.length cf) (0) (.slice none 0 0)))]) ++ (([(b2, cel 69 [.int .u8 0, .int .u8 0, .int .u8 0, .int .u8 0, .int .u8 0, .int .u8 0, .int .u8 0, .int .u8 0, .int .u8 0, .int .u8 0, .int .u8 0, .int .u8 0, .int .u8 0, .int .u8 0, .int .u8 0, .int .u8 0, .slice none 0 0, .int .i64 0, .slice none 0 0])]) ++ ([srcE sb A4 cp4 []])))))) rfl (by kernel_rfl) (by kernel_rfl) (by kernel_rfl) (by kernel_rfl) (fun D hD => .inl ⟨hD 3, hD 7, trivial, trivial, (List.Perm.refl _)⟩) ⟨?_, ?_, ?_, ?_, ?_, ?_, ?_, ?_, ?_, ?_, ?_, ?_, ?_, ?_, trivial⟩ ?_
   ·intro ρ L D hS
    rcases hS.sp with ⟨e3, e7, -, hρ, hL⟩ | ⟨e3, e7, -, hρ, hL⟩ | ⟨e3, e7, -, hp0, hρ, hL⟩
    ·have u3 : ρ 3 = .pointer (some ⟨b3, 0, none⟩) := hS.fix 3 (by decide)
     clear hS hρ
     obtain ⟨base, rfl⟩ := Has.base (ρ := ρ) (l := [(3, .pointer (some ⟨b3, 0, none⟩))]) ⟨u3, trivial⟩
     clear u3
     refine RL.perm rfl hL.symm ?_
     clear hL
     refine RL.fieldAddr rfl fd69_1 rfl ?_
     refine RL.nil ?_
     exact ⟨rfl, ⟨_, rfl, rfl⟩, .inl ⟨e3, e7, trivial, trivial, List.Perm.refl _⟩⟩
    ·have u3 : ρ 3 = .pointer (some ⟨b3, 0, none⟩) := hS.fix 3 (by decide)
     have u18 : ρ 18 = .slice A3 16 cp3 := hρ.1
     clear hS hρ
     obtain ⟨base, rfl⟩ := Has.base (ρ := ρ) (l := [(3, .pointer (some ⟨b3, 0, none⟩)), (18, .slice A3 16 cp3)]) ⟨u3, u18, trivial⟩
     clear u3 u18
     refine RL.perm rfl hL.symm ?_
     clear hL
     refine RL.fieldAddr rfl fd69_1 rfl ?_
     refine RL.nil ?_
     exact ⟨rfl, ⟨_, rfl, rfl⟩, .inr (.inl ⟨e3, e7, trivial, ⟨rfl, trivial⟩, List.Perm.refl _⟩)⟩
    exact hp0.elim
   ·intro ρ L D hS
    rcases hS.sp with ⟨e3, e7, -, hρ, hL⟩ | ⟨e3, e7, -, hρ, hL⟩ | ⟨e3, e7, -, hp0, hρ, hL⟩
    ·have u15 : ρ 15 = .pointer (some ⟨b3, 0 + 16, none⟩) := hS.dep ⟨0, Ground.data⟩ (by simp) rfl _ _ rfl rfl
     clear hS hρ
     obtain ⟨base, rfl⟩ := Has.base (ρ := ρ) (l := [(15, .pointer (some ⟨b3, 0 + 16, none⟩))]) ⟨u15, trivial⟩
     clear u15
     refine RL.perm rfl hL.symm ?_
     clear hL
     refine RL.loadO rfl sc66 rfl (clCells_f hid) ?_
     refine RL.nil ?_
     exact ⟨rfl, ⟨_, rfl, rfl⟩, .inl ⟨e3, e7, trivial, trivial, List.Perm.refl _⟩⟩
    ·have u15 : ρ 15 = .pointer (some ⟨b3, 0 + 16, none⟩) := hS.dep ⟨0, Ground.data⟩ (by simp) rfl _ _ rfl rfl
     have u18 : ρ 18 = .slice A3 16 cp3 := hρ.1
     clear hS hρ
     obtain ⟨base, rfl⟩ := Has.base (ρ := ρ) (l := [(15, .pointer (some ⟨b3, 0 + 16, none⟩)), (18, .slice A3 16 cp3)]) ⟨u15, u18, trivial⟩
     clear u15 u18
     refine RL.perm rfl hL.symm ?_
     clear hL
     refine RL.loadO rfl sc66 rfl (clCells_f hid) ?_
     refine RL.nil ?_
     exact ⟨rfl, ⟨_, rfl, rfl⟩, .inr (.inl ⟨e3, e7, trivial, ⟨rfl, trivial⟩, List.Perm.refl _⟩)⟩
    exact hp0.elim
   ·intro ρ L D hS
    rcases hS.sp with ⟨e3, e7, -, hρ, hL⟩ | ⟨e3, e7, -, hρ, hL⟩ | ⟨e3, e7, -, hp0, hρ, hL⟩
    ·have u0 : ρ 0 = .pointer (some ⟨sb, 0, none⟩) := hS.fix 0 (by decide)
     clear hS hρ
     obtain ⟨base, rfl⟩ := Has.base (ρ := ρ) (l := [(0, .pointer (some ⟨sb, 0, none⟩))]) ⟨u0, trivial⟩
     clear u0
     refine RL.perm rfl hL.symm ?_
     clear hL
     refine RL.move rfl ?_
     refine RL.nil ?_
     exact ⟨rfl, ⟨_, rfl, rfl⟩, .inl ⟨e3, e7, trivial, trivial, List.Perm.refl _⟩⟩
    ·exact hS.hi 3 rfl (by kernel_rfl) e3
    exact hp0.elim
   ·intro ρ L D hS
    rcases hS.sp with ⟨e3, e7, -, hρ, hL⟩ | ⟨e3, e7, -, hρ, hL⟩ | ⟨e3, e7, -, hp0, hρ, hL⟩
    ·have u17 : ρ 17 = .pointer (some ⟨sb, 0, none⟩) := hS.dep ⟨2, Ground.data⟩ (by simp) rfl _ _ rfl rfl
     clear hS hρ
     obtain ⟨base, rfl⟩ := Has.base (ρ := ρ) (l := [(17, .pointer (some ⟨sb, 0, none⟩))]) ⟨u17, trivial⟩
     clear u17
     refine RL.perm rfl hL.symm ?_
     clear hL
     refine RL.fn (Lp := [srcE sb A3 cp3 r3]) (Lr := Lf ++ [(b3, cel 69 (clCells (r.take 16) (.slice Af fs.length cf) (0) (.slice none 0 0))), (b2, cel 69 [.int .u8 0, .int .u8 0, .int .u8 0, .int .u8 0, .int .u8 0, .int .u8 0, .int .u8 0, .int .u8 0, .int .u8 0, .int .u8 0, .int .u8 0, .int .u8 0, .int .u8 0, .int .u8 0, .int .u8 0, .int .u8 0, .slice none 0 0, .int .i64 0, .slice none 0 0])]) rfl rfl rfl en54 (by classical exact List.perm_iff_count.2 (fun z => by simp only [List.count_append, List.count_cons, List.count_nil, List.cons_append, List.nil_append, List.set_cons_zero, List.set_cons_succ] <;> omega)) (fun w1 hw1 => f_stake r3 A3 cp3 sb (hs3).cap (hs3).len w1 16 (by omega) (fun p hp => hw1.own p (List.mem_append_left _ hp))) rfl ?_
     rintro _ _ ⟨rfl, rfl⟩
     rw [eA4]
     show RL _ _ _ _ _ (updO _ _ (.slice A3 16 cp3)) _ _
     refine RL.nil ?_
     exact ⟨rfl, ⟨_, rfl, trivial⟩, .inr (.inl ⟨rfl, e7, trivial, ⟨rfl, trivial⟩, (pmm fun _ _ z => by simp only [pm1, pm2, pm3, pm4, pm5, pm6, List.cons_append, List.nil_append] <;> omega)⟩)⟩
    ·exact hS.me e3
    exact hp0.elim
   ·intro ρ L D hS
    rcases hS.sp with ⟨e3, e7, -, hρ, hL⟩ | ⟨e3, e7, -, hρ, hL⟩ | ⟨e3, e7, -, hp0, hρ, hL⟩
    ·exact hS.lo 3 (by kernel_rfl) e3
    ·have u18 : ρ 18 = .slice A3 16 cp3 := hρ.1
     clear hS hρ
     obtain ⟨base, rfl⟩ := Has.base (ρ := ρ) (l := [(18, .slice A3 16 cp3)]) ⟨u18, trivial⟩
     clear u18
     refine RL.perm rfl hL.symm ?_
     clear hL
     refine RL.toArr rfl Try.underlying47 (by show Value.slice A3 16 cp3 = _; rw [eA3]) (Nat.le_refl _) ?_
     refine RL.nil ?_
     exact ⟨rfl, ⟨_, rfl, rfl⟩, .inr (.inl ⟨e3, e7, trivial, ⟨rfl, trivial⟩, List.Perm.refl _⟩)⟩
    exact hp0.elim
   ·intro ρ L D hS
    rcases hS.sp with ⟨e3, e7, -, hρ, hL⟩ | ⟨e3, e7, -, hρ, hL⟩ | ⟨e3, e7, -, hp0, hρ, hL⟩
    ·exact hS.lo 3 (by kernel_rfl) e3
    ·have u18 : ρ 18 = .slice A3 16 cp3 := hρ.1
     have u19 : ρ 19 = .pointer (some ⟨b4, o4, none⟩) := hS.dep ⟨4, Ground.data⟩ (by simp) rfl _ _ rfl rfl
     clear hS hρ
     obtain ⟨base, rfl⟩ := Has.base (ρ := ρ) (l := [(18, .slice A3 16 cp3), (19, .pointer (some ⟨b4, o4, none⟩))]) ⟨u18, u19, trivial⟩
     clear u18 u19
     refine RL.perm rfl hL.symm ?_
     clear hL
     refine RL.loadIA rfl ag47 rfl (cells_take hcel3) hb4 (gcells_length hid3) ?_
     refine RL.nil ?_
     exact ⟨rfl, ⟨_, rfl, rfl⟩, .inr (.inl ⟨e3, e7, trivial, ⟨rfl, trivial⟩, List.Perm.refl _⟩)⟩
    exact hp0.elim
   ·intro ρ L D hS
    rcases hS.sp with ⟨e3, e7, -, hρ, hL⟩ | ⟨e3, e7, -, hρ, hL⟩ | ⟨e3, e7, -, hp0, hρ, hL⟩
    ·have u0 : ρ 0 = .pointer (some ⟨sb, 0, none⟩) := hS.fix 0 (by decide)
     clear hS hρ
     obtain ⟨base, rfl⟩ := Has.base (ρ := ρ) (l := [(0, .pointer (some ⟨sb, 0, none⟩))]) ⟨u0, trivial⟩
     clear u0
     refine RL.perm rfl hL.symm ?_
     clear hL
     refine RL.move rfl ?_
     refine RL.nil ?_
     exact ⟨rfl, ⟨_, rfl, rfl⟩, .inl ⟨e3, e7, trivial, trivial, List.Perm.refl _⟩⟩
    ·have u0 : ρ 0 = .pointer (some ⟨sb, 0, none⟩) := hS.fix 0 (by decide)
     have u18 : ρ 18 = .slice A3 16 cp3 := hρ.1
     clear hS hρ
     obtain ⟨base, rfl⟩ := Has.base (ρ := ρ) (l := [(0, .pointer (some ⟨sb, 0, none⟩)), (18, .slice A3 16 cp3)]) ⟨u0, u18, trivial⟩
     clear u0 u18
     refine RL.perm rfl hL.symm ?_
     clear hL
     refine RL.move rfl ?_
     refine RL.nil ?_
     exact ⟨rfl, ⟨_, rfl, rfl⟩, .inr (.inl ⟨e3, e7, trivial, ⟨rfl, trivial⟩, List.Perm.refl _⟩)⟩
    exact hp0.elim
   ·intro ρ L D hS
    rcases hS.sp with ⟨e3, e7, -, hρ, hL⟩ | ⟨e3, e7, -, hρ, hL⟩ | ⟨e3, e7, -, hp0, hρ, hL⟩
    ·exact hS.lo 3 (by kernel_rfl) e3
    ·have u18 : ρ 18 = .slice A3 16 cp3 := hρ.1
     have u21 : ρ 21 = .pointer (some ⟨sb, 0, none⟩) := hS.dep ⟨6, Ground.data⟩ (by simp) rfl _ _ rfl rfl
     clear hS hρ
     obtain ⟨base, rfl⟩ := Has.base (ρ := ρ) (l := [(18, .slice A3 16 cp3), (21, .pointer (some ⟨sb, 0, none⟩))]) ⟨u18, u21, trivial⟩
     clear u18 u21
     refine RL.perm rfl hL.symm ?_
     clear hL
     exact RL.fnP (Lp := [srcE sb A4 cp4 []]) (Lr := Lf ++ [(b3, cel 69 (clCells (r.take 16) (.slice Af fs.length cf) (0) (.slice none 0 0))), (b2, cel 69 [.int .u8 0, .int .u8 0, .int .u8 0, .int .u8 0, .int .u8 0, .int .u8 0, .int .u8 0, .int .u8 0, .int .u8 0, .int .u8 0, .int .u8 0, .int .u8 0, .int .u8 0, .int .u8 0, .int .u8 0, .int .u8 0, .slice none 0 0, .int .i64 0, .slice none 0 0])]) rfl rfl rfl en48 (by classical exact List.perm_iff_count.2 (fun z => by simp only [List.count_append, List.count_cons, List.count_nil, List.cons_append, List.nil_append, List.set_cons_zero, List.set_cons_succ] <;> omega)) (fun w1 hw1 => f_scountX [] A4 cp4 sb (hs4).cap (hs4).len w1 rfl (fun p hp => hw1.own p (List.mem_append_left _ hp))) rfl (fun _ => by rw [xit_panic]; exact pan_end (hN)) (fun v L h => h.elim)
    exact hp0.elim
   ·intro ρ L D hS
    rcases hS.sp with ⟨e3, e7, -, hρ, hL⟩ | ⟨e3, e7, -, hρ, hL⟩ | ⟨e3, e7, -, hp0, hρ, hL⟩
    ·exact hS.lo 3 (by kernel_rfl) e3
    ·exact hS.lo 7 (by kernel_rfl) e7
    exact hp0.elim
   ·intro ρ L D hS
    rcases hS.sp with ⟨e3, e7, -, hρ, hL⟩ | ⟨e3, e7, -, hρ, hL⟩ | ⟨e3, e7, -, hp0, hρ, hL⟩
    ·exact hS.lo 3 (by kernel_rfl) e3
    ·exact hS.lo 7 (by kernel_rfl) e7
    exact hp0.elim
   ·intro ρ L D hS
    rcases hS.sp with ⟨e3, e7, -, hρ, hL⟩ | ⟨e3, e7, -, hρ, hL⟩ | ⟨e3, e7, -, hp0, hρ, hL⟩
    ·exact hS.lo 3 (by kernel_rfl) e3
    ·exact hS.lo 7 (by kernel_rfl) e7
    exact hp0.elim
   ·intro ρ L D hS
    rcases hS.sp with ⟨e3, e7, -, hρ, hL⟩ | ⟨e3, e7, -, hρ, hL⟩ | ⟨e3, e7, -, hp0, hρ, hL⟩
    ·exact hS.lo 3 (by kernel_rfl) e3
    ·exact hS.lo 7 (by kernel_rfl) e7
    exact hp0.elim
   ·intro ρ L D hS
    rcases hS.sp with ⟨e3, e7, -, hρ, hL⟩ | ⟨e3, e7, -, hρ, hL⟩ | ⟨e3, e7, -, hp0, hρ, hL⟩
    ·exact hS.lo 3 (by kernel_rfl) e3
    ·exact hS.lo 7 (by kernel_rfl) e7
    exact hp0.elim
   ·intro ρ L D hS
    rcases hS.sp with ⟨e3, e7, -, hρ, hL⟩ | ⟨e3, e7, -, hρ, hL⟩ | ⟨e3, e7, -, hp0, hρ, hL⟩
    ·exact hS.lo 3 (by kernel_rfl) e3
    ·exact hS.lo 7 (by kernel_rfl) e7
    exact hp0.elim
   intro ρ L D hD hT hfix hsp
   rcases hsp with ⟨e3, e7, -, hρ, hL⟩ | ⟨e3, e7, -, hρ, hL⟩ | ⟨e3, e7, -, hp0, hρ, hL⟩
   ·exact done_no hD 3 rfl e3
   ·exact done_no hD 7 rfl e7
   exact hp0.elim
  obtain ⟨hb0, hb1⟩ := hs4.byt bv (by simp)
  obtain ⟨A5, cp5, nx5, eA5⟩ : ∃ a b, ∃ _ : Nxt A cp r a b r5, srcE sb (cutA A4 cp4 1) (cp4 - 1) r5 = srcE sb a b r5 := ⟨_, _, nx4.trans (Nxt.cut (n := 1) (r := bv :: r5) (by simp) nx4.cap), rfl⟩
  have hpx : pFace r3 = some (⟨r3.take 16, bv - 1⟩, r5) := pface_some hs16 er4.symm
  refine X.set [.val (.pointer (some ⟨b3, 0 + 16, none⟩)), .val (.slice Af fs.length cf), .val (.pointer (some ⟨sb, 0, none⟩)), .any, .val (.pointer (some ⟨b4, o4, none⟩)), .val (.agg (gcells (r3.take 16)).toArray), .val (.pointer (some ⟨sb, 0, none⟩)), .any, .val (.int .i64 (bv - 1)), .val (.agg (⟨r3.take 16, bv - 1⟩ : Face).cells.toArray), .any, .any, .val (.pointer (some ⟨b3, 0 + 16, none⟩)), .any] [[], [0], [], [2], [2, 3], [2, 3, 4], [], [2, 3, 6], [2, 3, 6, 7], [2, 3, 4, 5, 6, 7, 8], [2, 3, 4, 5, 6, 7, 8, 9], [0, 1, 2, 3, 4, 5, 6, 7, 8, 9, 10], [0, 1, 2, 3, 4, 5, 6, 7, 8, 9, 10, 11], [0, 1, 2, 3, 4, 5, 6, 7, 8, 9, 10, 11, 12]] (fun D ρ L => (D 3 = false ∧ D 7 = false ∧ D 10 = false ∧ D 11 = false ∧ D 13 = false ∧ True ∧ Has ρ [] ∧ L.Perm ((Lf) ++ (([(b3, cel 69 (clCells (r.take 16) (.slice Af fs.length cf) (0) (.slice none 0 0)))]) ++ (([(b2, cel 69 [.int .u8 0, .int .u8 0, .int .u8 0, .int .u8 0, .int .u8 0, .int .u8 0, .int .u8 0, .int .u8 0, .int .u8 0, .int .u8 0, .int .u8 0, .int .u8 0, .int .u8 0, .int .u8 0, .int .u8 0, .int .u8 0, .slice none 0 0, .int .i64 0, .slice none 0 0])]) ++ ([srcE sb A3 cp3 r3]))))) ∨ (D 3 = true ∧ D 7 = false ∧ D 10 = false ∧ D 11 = false ∧ D 13 = false ∧ True ∧ Has ρ [(18, .slice A3 16 cp3)] ∧ L.Perm ((Lf) ++ (([(b3, cel 69 (clCells (r.take 16) (.slice Af fs.length cf) (0) (.slice none 0 0)))]) ++ (([(b2, cel 69 [.int .u8 0, .int .u8 0, .int .u8 0, .int .u8 0, .int .u8 0, .int .u8 0, .int .u8 0, .int .u8 0, .int .u8 0, .int .u8 0, .int .u8 0, .int .u8 0, .int .u8 0, .int .u8 0, .int .u8 0, .int .u8 0, .slice none 0 0, .int .i64 0, .slice none 0 0])]) ++ ([srcE sb A4 cp4 (bv :: r5)]))))) ∨ (D 3 = true ∧ D 7 = true ∧ D 10 = false ∧ D 11 = false ∧ D 13 = false ∧ True ∧ Has ρ [(18, .slice A3 16 cp3), (22, .int .i64 bv)] ∧ L.Perm ((Lf) ++ (([(b3, cel 69 (clCells (r.take 16) (.slice Af fs.length cf) (0) (.slice none 0 0)))]) ++ (([(b2, cel 69 [.int .u8 0, .int .u8 0, .int .u8 0, .int .u8 0, .int .u8 0, .int .u8 0, .int .u8 0, .int .u8 0, .int .u8 0, .int .u8 0, .int .u8 0, .int .u8 0, .int .u8 0, .int .u8 0, .int .u8 0, .int .u8 0, .slice none 0 0, .int .i64 0, .slice none 0 0])]) ++ ([srcE sb A5 cp5 r5]))))) ∨ (D 3 = true ∧ D 7 = true ∧ D 10 = true ∧ D 11 = false ∧ D 13 = false ∧ True ∧ ∃ bb25 : Nat, Has ρ [(18, .slice A3 16 cp3), (22, .int .i64 bv), (25, .slice (some ⟨bb25, 0, none⟩) 1 1)] ∧ L.Perm ((Lf) ++ (([(b3, cel 69 (clCells (r.take 16) (.slice Af fs.length cf) (0) (.slice none 0 0)))]) ++ (([(b2, cel 69 [.int .u8 0, .int .u8 0, .int .u8 0, .int .u8 0, .int .u8 0, .int .u8 0, .int .u8 0, .int .u8 0, .int .u8 0, .int .u8 0, .int .u8 0, .int .u8 0, .int .u8 0, .int .u8 0, .int .u8 0, .int .u8 0, .slice none 0 0, .int .i64 0, .slice none 0 0])]) ++ (([srcE sb A5 cp5 r5]) ++ ([(bb25, cel 93 (⟨r3.take 16, bv - 1⟩ : Face).cells)])))))) ∨ (D 3 = true ∧ D 7 = true ∧ D 10 = true ∧ D 11 = true ∧ D 13 = false ∧ True ∧ ∃ bb25 : Nat, ∃ A26 : Option Addr, ∃ cp26 : Nat, ∃ Lr26 : List Ent, (Row 93 17 (.slice A26 (fs ++ [(⟨r3.take 16, bv - 1⟩ : Face)]).length cp26) (fcells (fs ++ [(⟨r3.take 16, bv - 1⟩ : Face)])) Lr26) ∧ Has ρ [(18, .slice A3 16 cp3), (22, .int .i64 bv), (25, .slice (some ⟨bb25, 0, none⟩) 1 1), (26, .slice A26 (fs ++ [(⟨r3.take 16, bv - 1⟩ : Face)]).length cp26)] ∧ L.Perm ((Lr26) ++ (([(b3, cel 69 (clCells (r.take 16) (.slice Af fs.length cf) (0) (.slice none 0 0)))]) ++ (([(b2, cel 69 [.int .u8 0, .int .u8 0, .int .u8 0, .int .u8 0, .int .u8 0, .int .u8 0, .int .u8 0, .int .u8 0, .int .u8 0, .int .u8 0, .int .u8 0, .int .u8 0, .int .u8 0, .int .u8 0, .int .u8 0, .int .u8 0, .slice none 0 0, .int .i64 0, .slice none 0 0])]) ++ (([srcE sb A5 cp5 r5]) ++ ([(bb25, cel 93 (⟨r3.take 16, bv - 1⟩ : Face).cells)])))))) ∨ (D 3 = true ∧ D 7 = true ∧ D 10 = true ∧ D 11 = true ∧ D 13 = true ∧ True ∧ ∃ bb25 : Nat, ∃ A26 : Option Addr, ∃ cp26 : Nat, ∃ Lr26 : List Ent, (Row 93 17 (.slice A26 (fs ++ [(⟨r3.take 16, bv - 1⟩ : Face)]).length cp26) (fcells (fs ++ [(⟨r3.take 16, bv - 1⟩ : Face)])) Lr26) ∧ Has ρ [(18, .slice A3 16 cp3), (22, .int .i64 bv), (25, .slice (some ⟨bb25, 0, none⟩) 1 1), (26, .slice A26 (fs ++ [(⟨r3.take 16, bv - 1⟩ : Face)]).length cp26)] ∧ L.Perm ((Lr26) ++ (([(b3, cel 69 (clCells (r.take 16) (.slice A26 (fs ++ [(⟨r3.take 16, bv - 1⟩ : Face)]).length cp26) (0) (.slice none 0 0)))]) ++ (([(b2, cel 69 [.int .u8 0, .int .u8 0, .int .u8 0, .int .u8 0, .int .u8 0, .int .u8 0, .int .u8 0, .int .u8 0, .int .u8 0, .int .u8 0, .int .u8 0, .int .u8 0, .int .u8 0, .int .u8 0, .int .u8 0, .int .u8 0, .slice none 0 0, .int .i64 0, .slice none 0 0])]) ++ (([srcE sb A5 cp5 r5]) ++ ([(bb25, cel 93 (⟨r3.take 16, bv - 1⟩ : Face).cells)]))))))) rfl (by kernel_rfl) (by kernel_rfl) (by kernel_rfl) (by kernel_rfl) (fun D hD => .inl ⟨hD 3, hD 7, hD 10, hD 11, hD 13, trivial, trivial, (List.Perm.refl _)⟩) ⟨?_, ?_, ?_, ?_, ?_, ?_, ?_, ?_, ?_, ?_, ?_, ?_, ?_, ?_, trivial⟩ ?_
  ·intro ρ L D hS
   rcases hS.sp with ⟨e3, e7, e10, e11, e13, -, hρ, hL⟩ | ⟨e3, e7, e10, e11, e13, -, hρ, hL⟩ | ⟨e3, e7, e10, e11, e13, -, hρ, hL⟩ | ⟨e3, e7, e10, e11, e13, -, bb25, hρ, hL⟩ | ⟨e3, e7, e10, e11, e13, -, bb25, A26, cp26, Lr26, hp0, hρ, hL⟩ | ⟨e3, e7, e10, e11, e13, -, bb25, A26, cp26, Lr26, hp0, hρ, hL⟩
   ·have u3 : ρ 3 = .pointer (some ⟨b3, 0, none⟩) := hS.fix 3 (by decide)
    clear hS hρ
    obtain ⟨base, rfl⟩ := Has.base (ρ := ρ) (l := [(3, .pointer (some ⟨b3, 0, none⟩))]) ⟨u3, trivial⟩
    clear u3
    refine RL.perm rfl hL.symm ?_
    clear hL
    refine RL.fieldAddr rfl fd69_1 rfl ?_
    refine RL.nil ?_
    exact ⟨rfl, ⟨_, rfl, rfl⟩, .inl ⟨e3, e7, e10, e11, e13, trivial, trivial, List.Perm.refl _⟩⟩
   ·have u3 : ρ 3 = .pointer (some ⟨b3, 0, none⟩) := hS.fix 3 (by decide)
    have u18 : ρ 18 = .slice A3 16 cp3 := hρ.1
    clear hS hρ
    obtain ⟨base, rfl⟩ := Has.base (ρ := ρ) (l := [(3, .pointer (some ⟨b3, 0, none⟩)), (18, .slice A3 16 cp3)]) ⟨u3, u18, trivial⟩
    clear u3 u18
    refine RL.perm rfl hL.symm ?_
    clear hL
    refine RL.fieldAddr rfl fd69_1 rfl ?_
    refine RL.nil ?_
    exact ⟨rfl, ⟨_, rfl, rfl⟩, .inr (.inl ⟨e3, e7, e10, e11, e13, trivial, ⟨rfl, trivial⟩, List.Perm.refl _⟩)⟩
   ·have u3 : ρ 3 = .pointer (some ⟨b3, 0, none⟩) := hS.fix 3 (by decide)
    have u18 : ρ 18 = .slice A3 16 cp3 := hρ.1
    have u22 : ρ 22 = .int .i64 bv := hρ.2.1
    clear hS hρ
    obtain ⟨base, rfl⟩ := Has.base (ρ := ρ) (l := [(3, .pointer (some ⟨b3, 0, none⟩)), (18, .slice A3 16 cp3), (22, .int .i64 bv)]) ⟨u3, u18, u22, trivial⟩
    clear u3 u18 u22
    refine RL.perm rfl hL.symm ?_
    clear hL
    refine RL.fieldAddr rfl fd69_1 rfl ?_
    refine RL.nil ?_
    exact ⟨rfl, ⟨_, rfl, rfl⟩, .inr (.inr (.inl ⟨e3, e7, e10, e11, e13, trivial, ⟨rfl, rfl, trivial⟩, List.Perm.refl _⟩))⟩
   ·have u3 : ρ 3 = .pointer (some ⟨b3, 0, none⟩) := hS.fix 3 (by decide)
    have u18 : ρ 18 = .slice A3 16 cp3 := hρ.1
    have u22 : ρ 22 = .int .i64 bv := hρ.2.1
    have u25 : ρ 25 = .slice (some ⟨bb25, 0, none⟩) 1 1 := hρ.2.2.1
    clear hS hρ
    obtain ⟨base, rfl⟩ := Has.base (ρ := ρ) (l := [(3, .pointer (some ⟨b3, 0, none⟩)), (18, .slice A3 16 cp3), (22, .int .i64 bv), (25, .slice (some ⟨bb25, 0, none⟩) 1 1)]) ⟨u3, u18, u22, u25, trivial⟩
    clear u3 u18 u22 u25
    refine RL.perm rfl hL.symm ?_
    clear hL
    refine RL.fieldAddr rfl fd69_1 rfl ?_
    refine RL.nil ?_
    exact ⟨rfl, ⟨_, rfl, rfl⟩, .inr (.inr (.inr (.inl ⟨e3, e7, e10, e11, e13, trivial, bb25, ⟨rfl, rfl, rfl, trivial⟩, List.Perm.refl _⟩)))⟩
   ·exact hS.hi 11 rfl (by kernel_rfl) e11
   exact hS.hi 11 rfl (by kernel_rfl) e11
  ·intro ρ L D hS
   rcases hS.sp with ⟨e3, e7, e10, e11, e13, -, hρ, hL⟩ | ⟨e3, e7, e10, e11, e13, -, hρ, hL⟩ | ⟨e3, e7, e10, e11, e13, -, hρ, hL⟩ | ⟨e3, e7, e10, e11, e13, -, bb25, hρ, hL⟩ | ⟨e3, e7, e10, e11, e13, -, bb25, A26, cp26, Lr26, hp0, hρ, hL⟩ | ⟨e3, e7, e10, e11, e13, -, bb25, A26, cp26, Lr26, hp0, hρ, hL⟩
   ·have u15 : ρ 15 = .pointer (some ⟨b3, 0 + 16, none⟩) := hS.dep ⟨0, Ground.data⟩ (by simp) rfl _ _ rfl rfl
    clear hS hρ
    obtain ⟨base, rfl⟩ := Has.base (ρ := ρ) (l := [(15, .pointer (some ⟨b3, 0 + 16, none⟩))]) ⟨u15, trivial⟩
    clear u15
    refine RL.perm rfl hL.symm ?_
    clear hL
    refine RL.loadO rfl sc66 rfl (clCells_f hid) ?_
    refine RL.nil ?_
    exact ⟨rfl, ⟨_, rfl, rfl⟩, .inl ⟨e3, e7, e10, e11, e13, trivial, trivial, List.Perm.refl _⟩⟩
   ·have u15 : ρ 15 = .pointer (some ⟨b3, 0 + 16, none⟩) := hS.dep ⟨0, Ground.data⟩ (by simp) rfl _ _ rfl rfl
    have u18 : ρ 18 = .slice A3 16 cp3 := hρ.1
    clear hS hρ
    obtain ⟨base, rfl⟩ := Has.base (ρ := ρ) (l := [(15, .pointer (some ⟨b3, 0 + 16, none⟩)), (18, .slice A3 16 cp3)]) ⟨u15, u18, trivial⟩
    clear u15 u18
    refine RL.perm rfl hL.symm ?_
    clear hL
    refine RL.loadO rfl sc66 rfl (clCells_f hid) ?_
    refine RL.nil ?_
    exact ⟨rfl, ⟨_, rfl, rfl⟩, .inr (.inl ⟨e3, e7, e10, e11, e13, trivial, ⟨rfl, trivial⟩, List.Perm.refl _⟩)⟩
   ·have u15 : ρ 15 = .pointer (some ⟨b3, 0 + 16, none⟩) := hS.dep ⟨0, Ground.data⟩ (by simp) rfl _ _ rfl rfl
    have u18 : ρ 18 = .slice A3 16 cp3 := hρ.1
    have u22 : ρ 22 = .int .i64 bv := hρ.2.1
    clear hS hρ
    obtain ⟨base, rfl⟩ := Has.base (ρ := ρ) (l := [(15, .pointer (some ⟨b3, 0 + 16, none⟩)), (18, .slice A3 16 cp3), (22, .int .i64 bv)]) ⟨u15, u18, u22, trivial⟩
    clear u15 u18 u22
    refine RL.perm rfl hL.symm ?_
    clear hL
    refine RL.loadO rfl sc66 rfl (clCells_f hid) ?_
    refine RL.nil ?_
    exact ⟨rfl, ⟨_, rfl, rfl⟩, .inr (.inr (.inl ⟨e3, e7, e10, e11, e13, trivial, ⟨rfl, rfl, trivial⟩, List.Perm.refl _⟩))⟩
   ·have u15 : ρ 15 = .pointer (some ⟨b3, 0 + 16, none⟩) := hS.dep ⟨0, Ground.data⟩ (by simp) rfl _ _ rfl rfl
    have u18 : ρ 18 = .slice A3 16 cp3 := hρ.1
    have u22 : ρ 22 = .int .i64 bv := hρ.2.1
    have u25 : ρ 25 = .slice (some ⟨bb25, 0, none⟩) 1 1 := hρ.2.2.1
    clear hS hρ
    obtain ⟨base, rfl⟩ := Has.base (ρ := ρ) (l := [(15, .pointer (some ⟨b3, 0 + 16, none⟩)), (18, .slice A3 16 cp3), (22, .int .i64 bv), (25, .slice (some ⟨bb25, 0, none⟩) 1 1)]) ⟨u15, u18, u22, u25, trivial⟩
    clear u15 u18 u22 u25
    refine RL.perm rfl hL.symm ?_
    clear hL
    refine RL.loadO rfl sc66 rfl (clCells_f hid) ?_
    refine RL.nil ?_
    exact ⟨rfl, ⟨_, rfl, rfl⟩, .inr (.inr (.inr (.inl ⟨e3, e7, e10, e11, e13, trivial, bb25, ⟨rfl, rfl, rfl, trivial⟩, List.Perm.refl _⟩)))⟩
   ·exact hS.hi 11 rfl (by kernel_rfl) e11
   exact hS.hi 11 rfl (by kernel_rfl) e11
  ·intro ρ L D hS
   rcases hS.sp with ⟨e3, e7, e10, e11, e13, -, hρ, hL⟩ | ⟨e3, e7, e10, e11, e13, -, hρ, hL⟩ | ⟨e3, e7, e10, e11, e13, -, hρ, hL⟩ | ⟨e3, e7, e10, e11, e13, -, bb25, hρ, hL⟩ | ⟨e3, e7, e10, e11, e13, -, bb25, A26, cp26, Lr26, hp0, hρ, hL⟩ | ⟨e3, e7, e10, e11, e13, -, bb25, A26, cp26, Lr26, hp0, hρ, hL⟩
   ·have u0 : ρ 0 = .pointer (some ⟨sb, 0, none⟩) := hS.fix 0 (by decide)
    clear hS hρ
    obtain ⟨base, rfl⟩ := Has.base (ρ := ρ) (l := [(0, .pointer (some ⟨sb, 0, none⟩))]) ⟨u0, trivial⟩
    clear u0
    refine RL.perm rfl hL.symm ?_
    clear hL
    refine RL.move rfl ?_
    refine RL.nil ?_
    exact ⟨rfl, ⟨_, rfl, rfl⟩, .inl ⟨e3, e7, e10, e11, e13, trivial, trivial, List.Perm.refl _⟩⟩
   ·exact hS.hi 3 rfl (by kernel_rfl) e3
   ·exact hS.hi 3 rfl (by kernel_rfl) e3
   ·exact hS.hi 3 rfl (by kernel_rfl) e3
   ·exact hS.hi 3 rfl (by kernel_rfl) e3
   exact hS.hi 3 rfl (by kernel_rfl) e3
  ·intro ρ L D hS
   rcases hS.sp with ⟨e3, e7, e10, e11, e13, -, hρ, hL⟩ | ⟨e3, e7, e10, e11, e13, -, hρ, hL⟩ | ⟨e3, e7, e10, e11, e13, -, hρ, hL⟩ | ⟨e3, e7, e10, e11, e13, -, bb25, hρ, hL⟩ | ⟨e3, e7, e10, e11, e13, -, bb25, A26, cp26, Lr26, hp0, hρ, hL⟩ | ⟨e3, e7, e10, e11, e13, -, bb25, A26, cp26, Lr26, hp0, hρ, hL⟩
   ·have u17 : ρ 17 = .pointer (some ⟨sb, 0, none⟩) := hS.dep ⟨2, Ground.data⟩ (by simp) rfl _ _ rfl rfl
    clear hS hρ
    obtain ⟨base, rfl⟩ := Has.base (ρ := ρ) (l := [(17, .pointer (some ⟨sb, 0, none⟩))]) ⟨u17, trivial⟩
    clear u17
    refine RL.perm rfl hL.symm ?_
    clear hL
    refine RL.fn (Lp := [srcE sb A3 cp3 r3]) (Lr := Lf ++ [(b3, cel 69 (clCells (r.take 16) (.slice Af fs.length cf) (0) (.slice none 0 0))), (b2, cel 69 [.int .u8 0, .int .u8 0, .int .u8 0, .int .u8 0, .int .u8 0, .int .u8 0, .int .u8 0, .int .u8 0, .int .u8 0, .int .u8 0, .int .u8 0, .int .u8 0, .int .u8 0, .int .u8 0, .int .u8 0, .int .u8 0, .slice none 0 0, .int .i64 0, .slice none 0 0])]) rfl rfl rfl en54 (by classical exact List.perm_iff_count.2 (fun z => by simp only [List.count_append, List.count_cons, List.count_nil, List.cons_append, List.nil_append, List.set_cons_zero, List.set_cons_succ] <;> omega)) (fun w1 hw1 => f_stake r3 A3 cp3 sb (hs3).cap (hs3).len w1 16 (by omega) (fun p hp => hw1.own p (List.mem_append_left _ hp))) rfl ?_
    rintro _ _ ⟨rfl, rfl⟩
    rw [eA4]
    show RL _ _ _ _ _ (updO _ _ (.slice A3 16 cp3)) _ _
    refine RL.nil ?_
    exact ⟨rfl, ⟨_, rfl, trivial⟩, .inr (.inl ⟨rfl, e7, e10, e11, e13, trivial, ⟨rfl, trivial⟩, (pmm fun _ _ z => by simp only [pm1, pm2, pm3, pm4, pm5, pm6, List.cons_append, List.nil_append] <;> omega)⟩)⟩
   ·exact hS.me e3
   ·exact hS.hi 7 rfl (by kernel_rfl) e7
   ·exact hS.hi 7 rfl (by kernel_rfl) e7
   ·exact hS.hi 7 rfl (by kernel_rfl) e7
   exact hS.hi 7 rfl (by kernel_rfl) e7
  ·intro ρ L D hS
   rcases hS.sp with ⟨e3, e7, e10, e11, e13, -, hρ, hL⟩ | ⟨e3, e7, e10, e11, e13, -, hρ, hL⟩ | ⟨e3, e7, e10, e11, e13, -, hρ, hL⟩ | ⟨e3, e7, e10, e11, e13, -, bb25, hρ, hL⟩ | ⟨e3, e7, e10, e11, e13, -, bb25, A26, cp26, Lr26, hp0, hρ, hL⟩ | ⟨e3, e7, e10, e11, e13, -, bb25, A26, cp26, Lr26, hp0, hρ, hL⟩
   ·exact hS.lo 3 (by kernel_rfl) e3
   ·have u18 : ρ 18 = .slice A3 16 cp3 := hρ.1
    clear hS hρ
    obtain ⟨base, rfl⟩ := Has.base (ρ := ρ) (l := [(18, .slice A3 16 cp3)]) ⟨u18, trivial⟩
    clear u18
    refine RL.perm rfl hL.symm ?_
    clear hL
    refine RL.toArr rfl Try.underlying47 (by show Value.slice A3 16 cp3 = _; rw [eA3]) (Nat.le_refl _) ?_
    refine RL.nil ?_
    exact ⟨rfl, ⟨_, rfl, rfl⟩, .inr (.inl ⟨e3, e7, e10, e11, e13, trivial, ⟨rfl, trivial⟩, List.Perm.refl _⟩)⟩
   ·have u18 : ρ 18 = .slice A3 16 cp3 := hρ.1
    have u22 : ρ 22 = .int .i64 bv := hρ.2.1
    clear hS hρ
    obtain ⟨base, rfl⟩ := Has.base (ρ := ρ) (l := [(18, .slice A3 16 cp3), (22, .int .i64 bv)]) ⟨u18, u22, trivial⟩
    clear u18 u22
    refine RL.perm rfl hL.symm ?_
    clear hL
    refine RL.toArr rfl Try.underlying47 (by show Value.slice A3 16 cp3 = _; rw [eA3]) (Nat.le_refl _) ?_
    refine RL.nil ?_
    exact ⟨rfl, ⟨_, rfl, rfl⟩, .inr (.inr (.inl ⟨e3, e7, e10, e11, e13, trivial, ⟨rfl, rfl, trivial⟩, List.Perm.refl _⟩))⟩
   ·exact hS.hi 10 rfl (by kernel_rfl) e10
   ·exact hS.hi 10 rfl (by kernel_rfl) e10
   exact hS.hi 10 rfl (by kernel_rfl) e10
  ·intro ρ L D hS
   rcases hS.sp with ⟨e3, e7, e10, e11, e13, -, hρ, hL⟩ | ⟨e3, e7, e10, e11, e13, -, hρ, hL⟩ | ⟨e3, e7, e10, e11, e13, -, hρ, hL⟩ | ⟨e3, e7, e10, e11, e13, -, bb25, hρ, hL⟩ | ⟨e3, e7, e10, e11, e13, -, bb25, A26, cp26, Lr26, hp0, hρ, hL⟩ | ⟨e3, e7, e10, e11, e13, -, bb25, A26, cp26, Lr26, hp0, hρ, hL⟩
   ·exact hS.lo 3 (by kernel_rfl) e3
   ·have u18 : ρ 18 = .slice A3 16 cp3 := hρ.1
    have u19 : ρ 19 = .pointer (some ⟨b4, o4, none⟩) := hS.dep ⟨4, Ground.data⟩ (by simp) rfl _ _ rfl rfl
    clear hS hρ
    obtain ⟨base, rfl⟩ := Has.base (ρ := ρ) (l := [(18, .slice A3 16 cp3), (19, .pointer (some ⟨b4, o4, none⟩))]) ⟨u18, u19, trivial⟩
    clear u18 u19
    refine RL.perm rfl hL.symm ?_
    clear hL
    refine RL.loadIA rfl ag47 rfl (cells_take hcel3) hb4 (gcells_length hid3) ?_
    refine RL.nil ?_
    exact ⟨rfl, ⟨_, rfl, rfl⟩, .inr (.inl ⟨e3, e7, e10, e11, e13, trivial, ⟨rfl, trivial⟩, List.Perm.refl _⟩)⟩
   ·have u18 : ρ 18 = .slice A3 16 cp3 := hρ.1
    have u19 : ρ 19 = .pointer (some ⟨b4, o4, none⟩) := hS.dep ⟨4, Ground.data⟩ (by simp) rfl _ _ rfl rfl
    have u22 : ρ 22 = .int .i64 bv := hρ.2.1
    clear hS hρ
    obtain ⟨base, rfl⟩ := Has.base (ρ := ρ) (l := [(18, .slice A3 16 cp3), (19, .pointer (some ⟨b4, o4, none⟩)), (22, .int .i64 bv)]) ⟨u18, u19, u22, trivial⟩
    clear u18 u19 u22
    refine RL.perm rfl hL.symm ?_
    clear hL
    refine RL.loadIA rfl ag47 rfl (cells_take hcel3) hb4 (gcells_length hid3) ?_
    refine RL.nil ?_
    exact ⟨rfl, ⟨_, rfl, rfl⟩, .inr (.inr (.inl ⟨e3, e7, e10, e11, e13, trivial, ⟨rfl, rfl, trivial⟩, List.Perm.refl _⟩))⟩
   ·exact hS.hi 10 rfl (by kernel_rfl) e10
   ·exact hS.hi 10 rfl (by kernel_rfl) e10
   exact hS.hi 10 rfl (by kernel_rfl) e10
  ·intro ρ L D hS
   rcases hS.sp with ⟨e3, e7, e10, e11, e13, -, hρ, hL⟩ | ⟨e3, e7, e10, e11, e13, -, hρ, hL⟩ | ⟨e3, e7, e10, e11, e13, -, hρ, hL⟩ | ⟨e3, e7, e10, e11, e13, -, bb25, hρ, hL⟩ | ⟨e3, e7, e10, e11, e13, -, bb25, A26, cp26, Lr26, hp0, hρ, hL⟩ | ⟨e3, e7, e10, e11, e13, -, bb25, A26, cp26, Lr26, hp0, hρ, hL⟩
   ·have u0 : ρ 0 = .pointer (some ⟨sb, 0, none⟩) := hS.fix 0 (by decide)
    clear hS hρ
    obtain ⟨base, rfl⟩ := Has.base (ρ := ρ) (l := [(0, .pointer (some ⟨sb, 0, none⟩))]) ⟨u0, trivial⟩
    clear u0
    refine RL.perm rfl hL.symm ?_
    clear hL
    refine RL.move rfl ?_
    refine RL.nil ?_
    exact ⟨rfl, ⟨_, rfl, rfl⟩, .inl ⟨e3, e7, e10, e11, e13, trivial, trivial, List.Perm.refl _⟩⟩
   ·have u0 : ρ 0 = .pointer (some ⟨sb, 0, none⟩) := hS.fix 0 (by decide)
    have u18 : ρ 18 = .slice A3 16 cp3 := hρ.1
    clear hS hρ
    obtain ⟨base, rfl⟩ := Has.base (ρ := ρ) (l := [(0, .pointer (some ⟨sb, 0, none⟩)), (18, .slice A3 16 cp3)]) ⟨u0, u18, trivial⟩
    clear u0 u18
    refine RL.perm rfl hL.symm ?_
    clear hL
    refine RL.move rfl ?_
    refine RL.nil ?_
    exact ⟨rfl, ⟨_, rfl, rfl⟩, .inr (.inl ⟨e3, e7, e10, e11, e13, trivial, ⟨rfl, trivial⟩, List.Perm.refl _⟩)⟩
   ·exact hS.hi 7 rfl (by kernel_rfl) e7
   ·exact hS.hi 7 rfl (by kernel_rfl) e7
   ·exact hS.hi 7 rfl (by kernel_rfl) e7
   exact hS.hi 7 rfl (by kernel_rfl) e7
  ·intro ρ L D hS
   rcases hS.sp with ⟨e3, e7, e10, e11, e13, -, hρ, hL⟩ | ⟨e3, e7, e10, e11, e13, -, hρ, hL⟩ | ⟨e3, e7, e10, e11, e13, -, hρ, hL⟩ | ⟨e3, e7, e10, e11, e13, -, bb25, hρ, hL⟩ | ⟨e3, e7, e10, e11, e13, -, bb25, A26, cp26, Lr26, hp0, hρ, hL⟩ | ⟨e3, e7, e10, e11, e13, -, bb25, A26, cp26, Lr26, hp0, hρ, hL⟩
   ·exact hS.lo 3 (by kernel_rfl) e3
   ·have u18 : ρ 18 = .slice A3 16 cp3 := hρ.1
    have u21 : ρ 21 = .pointer (some ⟨sb, 0, none⟩) := hS.dep ⟨6, Ground.data⟩ (by simp) rfl _ _ rfl rfl
    clear hS hρ
    obtain ⟨base, rfl⟩ := Has.base (ρ := ρ) (l := [(18, .slice A3 16 cp3), (21, .pointer (some ⟨sb, 0, none⟩))]) ⟨u18, u21, trivial⟩
    clear u18 u21
    refine RL.perm rfl hL.symm ?_
    clear hL
    refine RL.fn (Lp := [srcE sb A4 cp4 (bv :: r5)]) (Lr := Lf ++ [(b3, cel 69 (clCells (r.take 16) (.slice Af fs.length cf) (0) (.slice none 0 0))), (b2, cel 69 [.int .u8 0, .int .u8 0, .int .u8 0, .int .u8 0, .int .u8 0, .int .u8 0, .int .u8 0, .int .u8 0, .int .u8 0, .int .u8 0, .int .u8 0, .int .u8 0, .int .u8 0, .int .u8 0, .int .u8 0, .int .u8 0, .slice none 0 0, .int .i64 0, .slice none 0 0])]) rfl rfl rfl en48 (by classical exact List.perm_iff_count.2 (fun z => by simp only [List.count_append, List.count_cons, List.count_nil, List.cons_append, List.nil_append, List.set_cons_zero, List.set_cons_succ] <;> omega)) (fun w1 hw1 => f_scount bv ((hs4).byt bv (by simp)) r5 A4 cp4 sb (hs4).cap (hs4).len w1 ((hs4).rd.stN hw1 (fun b o he => by have := (hs4).nb _ he; simpa [keys] using this)) (hs4).nb (fun p hp => hw1.own p (List.mem_append_left _ hp))) rfl ?_
    rintro _ _ ⟨rfl, rfl⟩
    rw [eA5]
    show RL _ _ _ _ _ (updO _ _ (.int .i64 bv)) _ _
    refine RL.nil ?_
    exact ⟨rfl, ⟨_, rfl, trivial⟩, .inr (.inr (.inl ⟨e3, rfl, e10, e11, e13, trivial, ⟨rfl, rfl, trivial⟩, (pmm fun _ _ z => by simp only [pm1, pm2, pm3, pm4, pm5, pm6, List.cons_append, List.nil_append] <;> omega)⟩))⟩
   ·exact hS.me e7
   ·exact hS.hi 10 rfl (by kernel_rfl) e10
   ·exact hS.hi 10 rfl (by kernel_rfl) e10
   exact hS.hi 10 rfl (by kernel_rfl) e10
  ·intro ρ L D hS
   rcases hS.sp with ⟨e3, e7, e10, e11, e13, -, hρ, hL⟩ | ⟨e3, e7, e10, e11, e13, -, hρ, hL⟩ | ⟨e3, e7, e10, e11, e13, -, hρ, hL⟩ | ⟨e3, e7, e10, e11, e13, -, bb25, hρ, hL⟩ | ⟨e3, e7, e10, e11, e13, -, bb25, A26, cp26, Lr26, hp0, hρ, hL⟩ | ⟨e3, e7, e10, e11, e13, -, bb25, A26, cp26, Lr26, hp0, hρ, hL⟩
   ·exact hS.lo 3 (by kernel_rfl) e3
   ·exact hS.lo 7 (by kernel_rfl) e7
   ·have u18 : ρ 18 = .slice A3 16 cp3 := hρ.1
    have u22 : ρ 22 = .int .i64 bv := hρ.2.1
    clear hS hρ
    obtain ⟨base, rfl⟩ := Has.base (ρ := ρ) (l := [(18, .slice A3 16 cp3), (22, .int .i64 bv)]) ⟨u18, u22, trivial⟩
    clear u18 u22
    refine RL.perm rfl hL.symm ?_
    clear hL
    refine RL.sub rfl rfl rfl (by omega) ?_
    refine RL.nil ?_
    exact ⟨rfl, ⟨_, rfl, rfl⟩, .inr (.inr (.inl ⟨e3, e7, e10, e11, e13, trivial, ⟨rfl, rfl, trivial⟩, List.Perm.refl _⟩))⟩
   ·exact hS.hi 10 rfl (by kernel_rfl) e10
   ·exact hS.hi 10 rfl (by kernel_rfl) e10
   exact hS.hi 10 rfl (by kernel_rfl) e10
  ·intro ρ L D hS
   rcases hS.sp with ⟨e3, e7, e10, e11, e13, -, hρ, hL⟩ | ⟨e3, e7, e10, e11, e13, -, hρ, hL⟩ | ⟨e3, e7, e10, e11, e13, -, hρ, hL⟩ | ⟨e3, e7, e10, e11, e13, -, bb25, hρ, hL⟩ | ⟨e3, e7, e10, e11, e13, -, bb25, A26, cp26, Lr26, hp0, hρ, hL⟩ | ⟨e3, e7, e10, e11, e13, -, bb25, A26, cp26, Lr26, hp0, hρ, hL⟩
   ·exact hS.lo 3 (by kernel_rfl) e3
   ·exact hS.lo 7 (by kernel_rfl) e7
   ·have u18 : ρ 18 = .slice A3 16 cp3 := hρ.1
    have u20 : ρ 20 = .agg (gcells (r3.take 16)).toArray := hS.dep ⟨5, Ground.data⟩ (by simp) rfl _ _ rfl rfl
    have u22 : ρ 22 = .int .i64 bv := hρ.2.1
    have u23 : ρ 23 = .int .i64 (bv - 1) := hS.dep ⟨8, Ground.data⟩ (by simp) rfl _ _ rfl rfl
    clear hS hρ
    obtain ⟨base, rfl⟩ := Has.base (ρ := ρ) (l := [(18, .slice A3 16 cp3), (20, .agg (gcells (r3.take 16)).toArray), (22, .int .i64 bv), (23, .int .i64 (bv - 1))]) ⟨u18, u20, u22, u23, trivial⟩
    clear u18 u20 u22 u23
    refine RL.perm rfl hL.symm ?_
    clear hL
    refine RL.bldC (vs := [(0, .agg (gcells (r3.take 16)).toArray), (1, .int .i64 (bv - 1))]) rfl rfl (build_face hid3 (bv - 1)) ?_
    refine RL.nil ?_
    exact ⟨rfl, ⟨_, rfl, rfl⟩, .inr (.inr (.inl ⟨e3, e7, e10, e11, e13, trivial, ⟨rfl, rfl, trivial⟩, List.Perm.refl _⟩))⟩
   ·exact hS.hi 10 rfl (by kernel_rfl) e10
   ·exact hS.hi 10 rfl (by kernel_rfl) e10
   exact hS.hi 10 rfl (by kernel_rfl) e10
  ·intro ρ L D hS
   rcases hS.sp with ⟨e3, e7, e10, e11, e13, -, hρ, hL⟩ | ⟨e3, e7, e10, e11, e13, -, hρ, hL⟩ | ⟨e3, e7, e10, e11, e13, -, hρ, hL⟩ | ⟨e3, e7, e10, e11, e13, -, bb25, hρ, hL⟩ | ⟨e3, e7, e10, e11, e13, -, bb25, A26, cp26, Lr26, hp0, hρ, hL⟩ | ⟨e3, e7, e10, e11, e13, -, bb25, A26, cp26, Lr26, hp0, hρ, hL⟩
   ·exact hS.lo 3 (by kernel_rfl) e3
   ·exact hS.lo 7 (by kernel_rfl) e7
   ·have u18 : ρ 18 = .slice A3 16 cp3 := hρ.1
    have u22 : ρ 22 = .int .i64 bv := hρ.2.1
    have u24 : ρ 24 = .agg (⟨r3.take 16, bv - 1⟩ : Face).cells.toArray := hS.dep ⟨9, Ground.data⟩ (by simp) rfl _ _ rfl rfl
    clear hS hρ
    obtain ⟨base, rfl⟩ := Has.base (ρ := ρ) (l := [(18, .slice A3 16 cp3), (22, .int .i64 bv), (24, .agg (⟨r3.take 16, bv - 1⟩ : Face).cells.toArray)]) ⟨u18, u22, u24, trivial⟩
    clear u18 u22 u24
    refine RL.perm rfl hL.symm ?_
    clear hL
    refine RL.bs1A rfl rfl sl66 zt93 rfl (Face.len hid3) (by decide) ?_
    intro bb25 hbb25
    refine RL.nil ?_
    exact ⟨rfl, ⟨_, rfl, trivial⟩, .inr (.inr (.inr (.inl ⟨e3, e7, rfl, e11, e13, trivial, bb25, ⟨rfl, rfl, rfl, trivial⟩, (pmm fun _ _ z => by simp only [pm1, pm2, pm3, pm4, pm5, pm6, List.cons_append, List.nil_append] <;> omega)⟩)))⟩
   ·exact hS.me e10
   ·exact hS.hi 11 rfl (by kernel_rfl) e11
   exact hS.hi 11 rfl (by kernel_rfl) e11
  ·intro ρ L D hS
   rcases hS.sp with ⟨e3, e7, e10, e11, e13, -, hρ, hL⟩ | ⟨e3, e7, e10, e11, e13, -, hρ, hL⟩ | ⟨e3, e7, e10, e11, e13, -, hρ, hL⟩ | ⟨e3, e7, e10, e11, e13, -, bb25, hρ, hL⟩ | ⟨e3, e7, e10, e11, e13, -, bb25, A26, cp26, Lr26, hp0, hρ, hL⟩ | ⟨e3, e7, e10, e11, e13, -, bb25, A26, cp26, Lr26, hp0, hρ, hL⟩
   ·exact hS.lo 3 (by kernel_rfl) e3
   ·exact hS.lo 7 (by kernel_rfl) e7
   ·exact hS.lo 10 (by kernel_rfl) e10
   ·have u16 : ρ 16 = .slice Af fs.length cf := hS.dep ⟨1, Ground.data⟩ (by simp) rfl _ _ rfl rfl
    have u18 : ρ 18 = .slice A3 16 cp3 := hρ.1
    have u22 : ρ 22 = .int .i64 bv := hρ.2.1
    have u25 : ρ 25 = .slice (some ⟨bb25, 0, none⟩) 1 1 := hρ.2.2.1
    clear hS hρ
    obtain ⟨base, rfl⟩ := Has.base (ρ := ρ) (l := [(16, .slice Af fs.length cf), (18, .slice A3 16 cp3), (22, .int .i64 bv), (25, .slice (some ⟨bb25, 0, none⟩) 1 1)]) ⟨u16, u18, u22, u25, trivial⟩
    clear u16 u18 u22 u25
    refine RL.perm rfl hL.symm ?_
    clear hL
    refine RL.appB (Lr := Lf) (xs := fcells fs) (ys := (⟨r3.take 16, bv - 1⟩ : Face).cells) (N := (fs ++ [(⟨r3.take 16, bv - 1⟩ : Face)]).length) rfl rfl sl66 el_face (by decide) (by decide) Try.underlying66 rfl hrf rfl (List.Perm.refl _) (by simp) (Face.len hid3) (face_one _) (by omega) (by simp) ?_
    intro A26 cp26 Lr26 hr26
    rw [← fcells_snoc] at hr26
    refine RL.nil ?_
    exact ⟨rfl, ⟨_, rfl, trivial⟩, .inr (.inr (.inr (.inr (.inl ⟨e3, e7, e10, rfl, e13, trivial, bb25, A26, cp26, Lr26, hr26, ⟨rfl, rfl, rfl, rfl, trivial⟩, (pmm fun _ _ z => by simp only [pm1, pm2, pm3, pm4, pm5, pm6, List.cons_append, List.nil_append] <;> omega)⟩))))⟩
   ·exact hS.me e11
   exact hS.hi 13 rfl (by kernel_rfl) e13
  ·intro ρ L D hS
   rcases hS.sp with ⟨e3, e7, e10, e11, e13, -, hρ, hL⟩ | ⟨e3, e7, e10, e11, e13, -, hρ, hL⟩ | ⟨e3, e7, e10, e11, e13, -, hρ, hL⟩ | ⟨e3, e7, e10, e11, e13, -, bb25, hρ, hL⟩ | ⟨e3, e7, e10, e11, e13, -, bb25, A26, cp26, Lr26, hp0, hρ, hL⟩ | ⟨e3, e7, e10, e11, e13, -, bb25, A26, cp26, Lr26, hp0, hρ, hL⟩
   ·exact hS.lo 3 (by kernel_rfl) e3
   ·exact hS.lo 7 (by kernel_rfl) e7
   ·exact hS.lo 10 (by kernel_rfl) e10
   ·exact hS.lo 11 (by kernel_rfl) e11
   ·have u3 : ρ 3 = .pointer (some ⟨b3, 0, none⟩) := hS.fix 3 (by decide)
    have u18 : ρ 18 = .slice A3 16 cp3 := hρ.1
    have u22 : ρ 22 = .int .i64 bv := hρ.2.1
    have u25 : ρ 25 = .slice (some ⟨bb25, 0, none⟩) 1 1 := hρ.2.2.1
    have u26 : ρ 26 = .slice A26 (fs ++ [(⟨r3.take 16, bv - 1⟩ : Face)]).length cp26 := hρ.2.2.2.1
    clear hS hρ
    obtain ⟨base, rfl⟩ := Has.base (ρ := ρ) (l := [(3, .pointer (some ⟨b3, 0, none⟩)), (18, .slice A3 16 cp3), (22, .int .i64 bv), (25, .slice (some ⟨bb25, 0, none⟩) 1 1), (26, .slice A26 (fs ++ [(⟨r3.take 16, bv - 1⟩ : Face)]).length cp26)]) ⟨u3, u18, u22, u25, u26, trivial⟩
    clear u3 u18 u22 u25 u26
    refine RL.perm rfl hL.symm ?_
    clear hL
    refine RL.fieldAddr rfl fd69_1 rfl ?_
    refine RL.nil ?_
    exact ⟨rfl, ⟨_, rfl, rfl⟩, .inr (.inr (.inr (.inr (.inl ⟨e3, e7, e10, e11, e13, trivial, bb25, A26, cp26, Lr26, hp0, ⟨rfl, rfl, rfl, rfl, trivial⟩, List.Perm.refl _⟩))))⟩
   exact hS.hi 13 rfl (by kernel_rfl) e13
  ·intro ρ L D hS
   rcases hS.sp with ⟨e3, e7, e10, e11, e13, -, hρ, hL⟩ | ⟨e3, e7, e10, e11, e13, -, hρ, hL⟩ | ⟨e3, e7, e10, e11, e13, -, hρ, hL⟩ | ⟨e3, e7, e10, e11, e13, -, bb25, hρ, hL⟩ | ⟨e3, e7, e10, e11, e13, -, bb25, A26, cp26, Lr26, hp0, hρ, hL⟩ | ⟨e3, e7, e10, e11, e13, -, bb25, A26, cp26, Lr26, hp0, hρ, hL⟩
   ·exact hS.lo 3 (by kernel_rfl) e3
   ·exact hS.lo 7 (by kernel_rfl) e7
   ·exact hS.lo 10 (by kernel_rfl) e10
   ·exact hS.lo 11 (by kernel_rfl) e11
   ·have u18 : ρ 18 = .slice A3 16 cp3 := hρ.1
    have u22 : ρ 22 = .int .i64 bv := hρ.2.1
    have u25 : ρ 25 = .slice (some ⟨bb25, 0, none⟩) 1 1 := hρ.2.2.1
    have u26 : ρ 26 = .slice A26 (fs ++ [(⟨r3.take 16, bv - 1⟩ : Face)]).length cp26 := hρ.2.2.2.1
    have u27 : ρ 27 = .pointer (some ⟨b3, 0 + 16, none⟩) := hS.dep ⟨12, Ground.data⟩ (by simp) rfl _ _ rfl rfl
    clear hS hρ
    obtain ⟨base, rfl⟩ := Has.base (ρ := ρ) (l := [(18, .slice A3 16 cp3), (22, .int .i64 bv), (25, .slice (some ⟨bb25, 0, none⟩) 1 1), (26, .slice A26 (fs ++ [(⟨r3.take 16, bv - 1⟩ : Face)]).length cp26), (27, .pointer (some ⟨b3, 0 + 16, none⟩))]) ⟨u18, u22, u25, u26, u27, trivial⟩
    clear u18 u22 u25 u26 u27
    refine RL.perm rfl hL.symm ?_
    clear hL
    refine RL.stS rfl rfl sc66.size rfl rfl (by rw [clCells_len hid]; decide) ?_
    rw [clCells_setf hid]
    refine RL.nil ?_
    exact ⟨rfl, ⟨_, rfl, trivial⟩, .inr (.inr (.inr (.inr (.inr (⟨e3, e7, e10, e11, rfl, trivial, bb25, A26, cp26, Lr26, hp0, ⟨rfl, rfl, rfl, rfl, trivial⟩, (pmm fun _ _ z => by simp only [pm1, pm2, pm3, pm4, pm5, pm6, List.cons_append, List.nil_append] <;> omega)⟩)))))⟩
   exact hS.me e13
  intro ρ L D hD hT hfix hsp
  rcases hsp with ⟨e3, e7, e10, e11, e13, -, hρ, hL⟩ | ⟨e3, e7, e10, e11, e13, -, hρ, hL⟩ | ⟨e3, e7, e10, e11, e13, -, hρ, hL⟩ | ⟨e3, e7, e10, e11, e13, -, bb25, hρ, hL⟩ | ⟨e3, e7, e10, e11, e13, -, bb25, A26, cp26, Lr26, hp0, hρ, hL⟩ | ⟨e3, e7, e10, e11, e13, -, bb25, A26, cp26, Lr26, hp0, hρ, hL⟩
  ·exact done_no hD 3 rfl e3
  ·exact done_no hD 7 rfl e7
  ·exact done_no hD 10 rfl e10
  ·exact done_no hD 11 rfl e11
  ·exact done_no hD 13 rfl e13
  have u0 : ρ 0 = .pointer (some ⟨sb, 0, none⟩) := hfix 0 (by decide)
  have u2 : ρ 2 = .pointer (some ⟨b2, 0, none⟩) := hfix 2 (by decide)
  have u3 : ρ 3 = .pointer (some ⟨b3, 0, none⟩) := hfix 3 (by decide)
  have u12 : ρ 12 = .int .i64 nf := hfix 12 (by decide)
  have u13 : ρ 13 = .int .i64 g := hfix 13 (by decide)
  have u18 : ρ 18 = .slice A3 16 cp3 := hρ.1
  have u22 : ρ 22 = .int .i64 bv := hρ.2.1
  have u25 : ρ 25 = .slice (some ⟨bb25, 0, none⟩) 1 1 := hρ.2.2.1
  have u26 : ρ 26 = .slice A26 (fs ++ [(⟨r3.take 16, bv - 1⟩ : Face)]).length cp26 := hρ.2.2.2.1
  clear hT hfix hD hρ
  obtain ⟨base, rfl⟩ := Has.base (ρ := ρ) (l := [(0, .pointer (some ⟨sb, 0, none⟩)), (2, .pointer (some ⟨b2, 0, none⟩)), (3, .pointer (some ⟨b3, 0, none⟩)), (12, .int .i64 nf), (13, .int .i64 g), (18, .slice A3 16 cp3), (22, .int .i64 bv), (25, .slice (some ⟨bb25, 0, none⟩) 1 1), (26, .slice A26 (fs ++ [(⟨r3.take 16, bv - 1⟩ : Face)]).length cp26)]) ⟨u0, u2, u3, u12, u13, u18, u22, u25, u26, trivial⟩
  clear u0 u2 u3 u12 u13 u18 u22 u25 u26
  refine ⟨_, hL.symm, ((Lr26) ++ (([(b3, cel 69 (clCells (r.take 16) (.slice A26 (fs ++ [(⟨r3.take 16, bv - 1⟩ : Face)]).length cp26) (0) (.slice none 0 0)))]) ++ (([(b2, cel 69 [.int .u8 0, .int .u8 0, .int .u8 0, .int .u8 0, .int .u8 0, .int .u8 0, .int .u8 0, .int .u8 0, .int .u8 0, .int .u8 0, .int .u8 0, .int .u8 0, .int .u8 0, .int .u8 0, .int .u8 0, .int .u8 0, .slice none 0 0, .int .i64 0, .slice none 0 0])]) ++ ([srcE sb A5 cp5 r5])))), List.Sublist.append (List.Sublist.refl _) (List.Sublist.append (List.Sublist.refl _) (List.Sublist.append (List.Sublist.refl _) (List.sublist_append_left _ _))), ?_⟩
  refine X.blk ?_
  refine X.region rfl ?_
  refine RL.add rfl rfl rfl (by omega) ?_
  refine RL.move rfl ?_
  refine RL.nil ?_
  refine X.hyp ⟨rfl, g + 1, by omega, _, (List.Sublist.refl _), fs ++ [(⟨r3.take 16, bv - 1⟩ : Face)], r5, A26, cp26, Lr26, A5, cp5, by omega, pN_next hpf hpx, all_snoc hfo (show FaceOk (⟨r3.take 16, bv - 1⟩ : Face) from hid3), hp0, nx5, ⟨rfl, rfl, rfl, rfl, rfl, trivial⟩, rfl⟩
 replace hlt : ¬ ((_ : Int) < _) := hlt
 have hgg : g = nf.toNat := by omega
 subst hgg
 have hC2 : pClass r = (pCount r3).bind fun c => (pCount c.2).bind fun d => (pN pMeth d.1.toNat d.2).map fun e => (⟨r.take 16, fs, c.1, e.1⟩, e.2) := by rw [hC1, hpf]; rfl
 refine RL.nil ?_
 refine X.seq ?_
 refine X.cond_f rfl ?_
 refine X.exit rfl ?_
 refine X.seq ?_
 refine X.region rfl ?_
 refine RL.move rfl ?_
 rcases r3 with _ | ⟨sl, r6⟩
 ·have hN : pClass r = none := by rw [hC2]; rfl
  exact RL.fnP (Lp := [srcE sb A3 cp3 []]) (Lr := Lf ++ [(b3, cel 69 (clCells (r.take 16) (.slice Af fs.length cf) (0) (.slice none 0 0))), (b2, cel 69 [.int .u8 0, .int .u8 0, .int .u8 0, .int .u8 0, .int .u8 0, .int .u8 0, .int .u8 0, .int .u8 0, .int .u8 0, .int .u8 0, .int .u8 0, .int .u8 0, .int .u8 0, .int .u8 0, .int .u8 0, .int .u8 0, .slice none 0 0, .int .i64 0, .slice none 0 0])]) rfl rfl rfl en48 (by classical exact List.perm_iff_count.2 (fun z => by simp only [List.count_append, List.count_cons, List.count_nil, List.cons_append, List.nil_append, List.set_cons_zero, List.set_cons_succ] <;> omega)) (fun w1 hw1 => f_scountX [] A3 cp3 sb (hs3).cap (hs3).len w1 rfl (fun p hp => hw1.own p (List.mem_append_left _ hp))) rfl (fun _ => by rw [xit_panic]; exact pan_end (hN)) (fun v L h => h.elim)
 obtain ⟨hsl0, hsl1⟩ := hs3.byt sl (by simp)
 refine RL.fn (Lp := [srcE sb A3 cp3 (sl :: r6)]) (Lr := Lf ++ [(b3, cel 69 (clCells (r.take 16) (.slice Af fs.length cf) (0) (.slice none 0 0))), (b2, cel 69 [.int .u8 0, .int .u8 0, .int .u8 0, .int .u8 0, .int .u8 0, .int .u8 0, .int .u8 0, .int .u8 0, .int .u8 0, .int .u8 0, .int .u8 0, .int .u8 0, .int .u8 0, .int .u8 0, .int .u8 0, .int .u8 0, .slice none 0 0, .int .i64 0, .slice none 0 0])]) rfl rfl rfl en48 (by classical exact List.perm_iff_count.2 (fun z => by simp only [List.count_append, List.count_cons, List.count_nil, List.cons_append, List.nil_append, List.set_cons_zero, List.set_cons_succ] <;> omega)) (fun w1 hw1 => f_scount sl ((hs3).byt sl (by simp)) r6 A3 cp3 sb (hs3).cap (hs3).len w1 ((hs3).rd.stN hw1 (fun b o he => by have := (hs3).nb _ he; simpa [keys] using this)) (hs3).nb (fun p hp => hw1.own p (List.mem_append_left _ hp))) rfl ?_
 rintro _ _ ⟨rfl, rfl⟩
 obtain ⟨A6, cp6, nx6, eA6⟩ : ∃ a b, ∃ _ : Nxt A cp r a b r6, srcE sb (cutA A3 cp3 1) (cp3 - 1) r6 = srcE sb a b r6 := ⟨_, _, nx3.trans (Nxt.cut (n := 1) (r := (sl :: r6)) (by first | omega | (simp; done) | (simp; omega)) nx3.cap), rfl⟩
 rw [eA6]
 have hs6 := hsrc.nxt nx6
 refine RL.fieldAddr rfl fd69_2 rfl ?_
 refine RL.stI rfl rfl sc3.size rfl rfl (by rw [clCells_len hid]; decide) ?_
 rw [clCells_sets hid]
 refine RL.nil ?_
 refine X.seq ?_
 refine X.seq ?_
 refine X.region rfl ?_
 refine RL.move rfl ?_
 rcases r6 with _ | ⟨nm, r7⟩
 ·have hN : pClass r = none := by rw [hC2]; rfl
  exact RL.fnP (Lp := [srcE sb A6 cp6 []]) (Lr := Lf ++ [(b3, cel 69 (clCells (r.take 16) (.slice Af fs.length cf) (sl) (.slice none 0 0))), (b2, cel 69 [.int .u8 0, .int .u8 0, .int .u8 0, .int .u8 0, .int .u8 0, .int .u8 0, .int .u8 0, .int .u8 0, .int .u8 0, .int .u8 0, .int .u8 0, .int .u8 0, .int .u8 0, .int .u8 0, .int .u8 0, .int .u8 0, .slice none 0 0, .int .i64 0, .slice none 0 0])]) rfl rfl rfl en48 (by classical exact List.perm_iff_count.2 (fun z => by simp only [List.count_append, List.count_cons, List.count_nil, List.cons_append, List.nil_append, List.set_cons_zero, List.set_cons_succ] <;> omega)) (fun w1 hw1 => f_scountX [] A6 cp6 sb (hs6).cap (hs6).len w1 rfl (fun p hp => hw1.own p (List.mem_append_left _ hp))) rfl (fun _ => by rw [xit_panic]; exact pan_end (hN)) (fun v L h => h.elim)
 obtain ⟨hnm0, hnm1⟩ := hs6.byt nm (by simp)
 refine RL.fn (Lp := [srcE sb A6 cp6 (nm :: r7)]) (Lr := Lf ++ [(b3, cel 69 (clCells (r.take 16) (.slice Af fs.length cf) (sl) (.slice none 0 0))), (b2, cel 69 [.int .u8 0, .int .u8 0, .int .u8 0, .int .u8 0, .int .u8 0, .int .u8 0, .int .u8 0, .int .u8 0, .int .u8 0, .int .u8 0, .int .u8 0, .int .u8 0, .int .u8 0, .int .u8 0, .int .u8 0, .int .u8 0, .slice none 0 0, .int .i64 0, .slice none 0 0])]) rfl rfl rfl en48 (by classical exact List.perm_iff_count.2 (fun z => by simp only [List.count_append, List.count_cons, List.count_nil, List.cons_append, List.nil_append, List.set_cons_zero, List.set_cons_succ] <;> omega)) (fun w1 hw1 => f_scount nm ((hs6).byt nm (by simp)) r7 A6 cp6 sb (hs6).cap (hs6).len w1 ((hs6).rd.stN hw1 (fun b o he => by have := (hs6).nb _ he; simpa [keys] using this)) (hs6).nb (fun p hp => hw1.own p (List.mem_append_left _ hp))) rfl ?_
 rintro _ _ ⟨rfl, rfl⟩
 obtain ⟨A7, cp7, nx7, eA7⟩ : ∃ a b, ∃ _ : Nxt A cp r a b r7, srcE sb (cutA A6 cp6 1) (cp6 - 1) r7 = srcE sb a b r7 := ⟨_, _, nx6.trans (Nxt.cut (n := 1) (r := (nm :: r7)) (by first | omega | (simp; done) | (simp; omega)) nx6.cap), rfl⟩
 rw [eA7]
 have hs7 := hsrc.nxt nx7
 have hC3 : pClass r = (pN pMeth nm.toNat r7).map fun e => (⟨r.take 16, fs, sl, e.1⟩, e.2) := by rw [hC2]; rfl
 refine RL.perm (L' := [] ++ ([] ++ (Lf ++ [(b3, cel 69 (clCells (r.take 16) (.slice Af fs.length cf) (sl) (.slice none 0 0))), (b2, cel 69 [.int .u8 0, .int .u8 0, .int .u8 0, .int .u8 0, .int .u8 0, .int .u8 0, .int .u8 0, .int .u8 0, .int .u8 0, .int .u8 0, .int .u8 0, .int .u8 0, .int .u8 0, .int .u8 0, .int .u8 0, .int .u8 0, .slice none 0 0, .int .i64 0, .slice none 0 0]), srcE sb A7 cp7 r7]))) rfl (by classical exact List.perm_iff_count.2 (fun z => by simp only [List.count_append, List.count_cons, List.count_nil, List.cons_append, List.nil_append, List.set_cons_zero, List.set_cons_succ] <;> omega)) ?_
 refine RL.move rfl ?_
 refine RL.nil ?_
 refine X.block ?_
 refine X.loop (γ := Nat) (fun g ρ L => ∃ ls : List (List Ins), ∃ r8 : List Int, ∃ Am : Option Addr, ∃ cm : Nat, ∃ ms : List Value, ∃ Lm : List Ent, ∃ Ls : List Ent, ∃ A8 : Option Addr, ∃ cp8 : Nat, (g ≤ nm.toNat) ∧ (pN pMeth g r7 = some (ls, r8)) ∧ (Row 78 1 (.slice Am (ls).length cm) (ms) Lm) ∧ (MsO ls ms Ls) ∧ (Nxt A cp r A8 cp8 r8) ∧ Has ρ [(0, .pointer (some ⟨sb, 0, none⟩)), (2, .pointer (some ⟨b2, 0, none⟩)), (3, .pointer (some ⟨b3, 0, none⟩)), (33, .int .i64 nm), (34, .int .i64 g)] ∧ L = Lm ++ (Ls ++ (Lf ++ [(b3, cel 69 (clCells (r.take 16) (.slice Af fs.length cf) (sl) (.slice Am (ls).length cm))), (b2, cel 69 [.int .u8 0, .int .u8 0, .int .u8 0, .int .u8 0, .int .u8 0, .int .u8 0, .int .u8 0, .int .u8 0, .int .u8 0, .int .u8 0, .int .u8 0, .int .u8 0, .int .u8 0, .int .u8 0, .int .u8 0, .int .u8 0, .slice none 0 0, .int .i64 0, .slice none 0 0]), srcE sb A8 cp8 r8]))) (fun g => nm.toNat - g) (0) ⟨_, (by repeat (first | exact sb0 _ | exact sb1 _ | (rw [List.append_nil]; exact sb0 _) | exact sb2 _ _ | exact sb3 _ _ _ | apply sb4 | apply sb5 | apply sb6)), [], r7, none, 0, [], [], [], A7, cp7, Nat.zero_le _, rfl, Row.nil, MsO.nil, nx7, ⟨rfl, rfl, rfl, rfl, rfl, trivial⟩, rfl⟩ ?_
 rintro g _ _ ⟨ls, r8, Am, cm, ms, Lm, Ls, A8, cp8, hg2, hpm, hrm, hmo, nx8, hρ, rfl⟩
 obtain ⟨base, rfl⟩ := hρ.base
 clear hρ
 have hs8 := hsrc.nxt nx8
 have hml := pN_len hpm
 refine X.seq ?_
 refine X.region rfl ?_
 refine RL.cmp_s rfl rfl rfl rfl (fun hlt2 => ?_) (fun hlt2 => ?_)
 ·replace hlt2 : (_ : Int) < _ := hlt2
  have hgn2 : g < nm.toNat := by omega
  have hbad2 : pMeth r8 = none → pClass r = none := fun hx => by rw [hC3, pN_fail hgn2 hpm hx]; rfl
  refine RL.nil ?_
  refine X.seq ?_
  refine X.cond_t rfl ?_
  refine X.skip ?_
  refine X.seq ?_
  refine X.block ?_
  refine X.seq ?_
  refine X.region rfl ?_
  refine RL.assign rfl ?_
  refine RL.nil ?_
  refine X.seq ?_
  refine X.seq ?_
  refine X.region rfl ?_
  refine RL.move rfl ?_
  rcases r8 with _ | ⟨ni, r9⟩
  ·have hN : pClass r = none := hbad2 rfl
   exact RL.fnP (Lp := [srcE sb A8 cp8 []]) (Lr := Lm ++ (Ls ++ (Lf ++ [(b3, cel 69 (clCells (r.take 16) (.slice Af fs.length cf) (sl) (.slice Am (ls).length cm))), (b2, cel 69 [.int .u8 0, .int .u8 0, .int .u8 0, .int .u8 0, .int .u8 0, .int .u8 0, .int .u8 0, .int .u8 0, .int .u8 0, .int .u8 0, .int .u8 0, .int .u8 0, .int .u8 0, .int .u8 0, .int .u8 0, .int .u8 0, .slice none 0 0, .int .i64 0, .slice none 0 0])]))) rfl rfl rfl en48 (by classical exact List.perm_iff_count.2 (fun z => by simp only [List.count_append, List.count_cons, List.count_nil, List.cons_append, List.nil_append, List.set_cons_zero, List.set_cons_succ] <;> omega)) (fun w1 hw1 => f_scountX [] A8 cp8 sb (hs8).cap (hs8).len w1 rfl (fun p hp => hw1.own p (List.mem_append_left _ hp))) rfl (fun _ => by rw [xit_panic]; exact pan_end (hN)) (fun v L h => h.elim)
  obtain ⟨hni0, hni1⟩ := hs8.byt ni (by simp)
  refine RL.fn (Lp := [srcE sb A8 cp8 (ni :: r9)]) (Lr := Lm ++ (Ls ++ (Lf ++ [(b3, cel 69 (clCells (r.take 16) (.slice Af fs.length cf) (sl) (.slice Am (ls).length cm))), (b2, cel 69 [.int .u8 0, .int .u8 0, .int .u8 0, .int .u8 0, .int .u8 0, .int .u8 0, .int .u8 0, .int .u8 0, .int .u8 0, .int .u8 0, .int .u8 0, .int .u8 0, .int .u8 0, .int .u8 0, .int .u8 0, .int .u8 0, .slice none 0 0, .int .i64 0, .slice none 0 0])]))) rfl rfl rfl en48 (by classical exact List.perm_iff_count.2 (fun z => by simp only [List.count_append, List.count_cons, List.count_nil, List.cons_append, List.nil_append, List.set_cons_zero, List.set_cons_succ] <;> omega)) (fun w1 hw1 => f_scount ni ((hs8).byt ni (by simp)) r9 A8 cp8 sb (hs8).cap (hs8).len w1 ((hs8).rd.stN hw1 (fun b o he => by have := (hs8).nb _ he; simpa [keys] using this)) (hs8).nb (fun p hp => hw1.own p (List.mem_append_left _ hp))) rfl ?_
  rintro _ _ ⟨rfl, rfl⟩
  obtain ⟨A9, cp9, nx9, eA9⟩ : ∃ a b, ∃ _ : Nxt A cp r a b r9, srcE sb (cutA A8 cp8 1) (cp8 - 1) r9 = srcE sb a b r9 := ⟨_, _, nx8.trans (Nxt.cut (n := 1) (r := (ni :: r9)) (by first | omega | (simp; done) | (simp; omega)) nx8.cap), rfl⟩
  rw [eA9]
  have hs9 := hsrc.nxt nx9
  have hM1 : pMeth (ni :: r9) = pN pIns ni.toNat r9 := rfl
  refine RL.perm (L' := [] ++ (Lm ++ (Ls ++ (Lf ++ [(b3, cel 69 (clCells (r.take 16) (.slice Af fs.length cf) (sl) (.slice Am (ls).length cm))), (b2, cel 69 [.int .u8 0, .int .u8 0, .int .u8 0, .int .u8 0, .int .u8 0, .int .u8 0, .int .u8 0, .int .u8 0, .int .u8 0, .int .u8 0, .int .u8 0, .int .u8 0, .int .u8 0, .int .u8 0, .int .u8 0, .int .u8 0, .slice none 0 0, .int .i64 0, .slice none 0 0]), srcE sb A9 cp9 r9])))) rfl (by classical exact List.perm_iff_count.2 (fun z => by simp only [List.count_append, List.count_cons, List.count_nil, List.cons_append, List.nil_append, List.set_cons_zero, List.set_cons_succ] <;> omega)) ?_
  refine RL.move rfl ?_
  refine RL.nil ?_
  refine X.block ?_
  refine X.loop (γ := Nat) (fun j ρ L => ∃ l : List Ins, ∃ r10 : List Int, ∃ Al : Option Addr, ∃ cl2 : Nat, ∃ Ll : List Ent, ∃ A10 : Option Addr, ∃ cp10 : Nat, (j ≤ ni.toNat) ∧ (pN pIns j r9 = some (l, r10)) ∧ (Row 77 3 (.slice Al (l).length cl2) (icells (l)) Ll) ∧ (Nxt A cp r A10 cp10 r10) ∧ Has ρ [(0, .pointer (some ⟨sb, 0, none⟩)), (2, .pointer (some ⟨b2, 0, none⟩)), (3, .pointer (some ⟨b3, 0, none⟩)), (4, .slice Al l.length cl2), (33, .int .i64 nm), (34, .int .i64 g), (37, .int .i64 ni), (38, .int .i64 j)] ∧ L = Ll ++ (Lm ++ (Ls ++ (Lf ++ [(b3, cel 69 (clCells (r.take 16) (.slice Af fs.length cf) (sl) (.slice Am (ls).length cm))), (b2, cel 69 [.int .u8 0, .int .u8 0, .int .u8 0, .int .u8 0, .int .u8 0, .int .u8 0, .int .u8 0, .int .u8 0, .int .u8 0, .int .u8 0, .int .u8 0, .int .u8 0, .int .u8 0, .int .u8 0, .int .u8 0, .int .u8 0, .slice none 0 0, .int .i64 0, .slice none 0 0]), srcE sb A10 cp10 r10])))) (fun j => ni.toNat - j) (0) ⟨_, (by repeat (first | exact sb0 _ | exact sb1 _ | (rw [List.append_nil]; exact sb0 _) | exact sb2 _ _ | exact sb3 _ _ _ | apply sb4 | apply sb5 | apply sb6)), [], r9, none, 0, [], A9, cp9, Nat.zero_le _, rfl, Row.nil, nx9, ⟨rfl, rfl, rfl, rfl, rfl, rfl, rfl, rfl, trivial⟩, rfl⟩ ?_
  rintro j _ _ ⟨l, r10, Al, cl2, Ll, A10, cp10, hj, hpi, hrl, nx10, hρ, rfl⟩
  obtain ⟨base, rfl⟩ := hρ.base
  clear hρ
  have hs10 := hsrc.nxt nx10
  have hll := pN_len hpi
  refine X.seq ?_
  refine X.region rfl ?_
  refine RL.cmp_s rfl rfl rfl rfl (fun hlt3 => ?_) (fun hlt3 => ?_)
  ·replace hlt3 : (_ : Int) < _ := hlt3
   have hjn : j < ni.toNat := by omega
   have hbad3 : pIns r10 = none → pClass r = none := fun hx => hbad2 (by rw [hM1]; exact pN_fail hjn hpi hx)
   refine RL.nil ?_
   refine X.seq ?_
   refine X.cond_t rfl ?_
   refine X.skip ?_
   refine X.seq ?_
   refine X.block ?_
   refine X.seq ?_
   refine X.region rfl ?_
   refine RL.move rfl ?_
   by_cases h6 : r10.length < 6
   ·exact RL.fnP (Lp := [srcE sb A10 cp10 r10]) (Lr := Ll ++ (Lm ++ (Ls ++ (Lf ++ [(b3, cel 69 (clCells (r.take 16) (.slice Af fs.length cf) (sl) (.slice Am (ls).length cm))), (b2, cel 69 [.int .u8 0, .int .u8 0, .int .u8 0, .int .u8 0, .int .u8 0, .int .u8 0, .int .u8 0, .int .u8 0, .int .u8 0, .int .u8 0, .int .u8 0, .int .u8 0, .int .u8 0, .int .u8 0, .int .u8 0, .int .u8 0, .slice none 0 0, .int .i64 0, .slice none 0 0])])))) rfl rfl rfl en54 (by classical exact List.perm_iff_count.2 (fun z => by simp only [List.count_append, List.count_cons, List.count_nil, List.cons_append, List.nil_append, List.set_cons_zero, List.set_cons_succ] <;> omega)) (fun w1 hw1 => f_stakeX r10 A10 cp10 sb (hs10).cap (hs10).len w1 6 (by omega) (by decide) (fun p hp => hw1.own p (List.mem_append_left _ hp))) rfl (fun _ => by rw [xit_panic]; exact pan_end (hbad3 (by unfold pIns; rw [if_pos h6]))) (fun v L h => h.elim)
   obtain ⟨b6, o6, eA10, hcel6, hb6⟩ := hs10.at (by omega)
   refine RL.fn (Lp := [srcE sb A10 cp10 r10]) (Lr := Ll ++ (Lm ++ (Ls ++ (Lf ++ [(b3, cel 69 (clCells (r.take 16) (.slice Af fs.length cf) (sl) (.slice Am (ls).length cm))), (b2, cel 69 [.int .u8 0, .int .u8 0, .int .u8 0, .int .u8 0, .int .u8 0, .int .u8 0, .int .u8 0, .int .u8 0, .int .u8 0, .int .u8 0, .int .u8 0, .int .u8 0, .int .u8 0, .int .u8 0, .int .u8 0, .int .u8 0, .slice none 0 0, .int .i64 0, .slice none 0 0])])))) rfl rfl rfl en54 (by classical exact List.perm_iff_count.2 (fun z => by simp only [List.count_append, List.count_cons, List.count_nil, List.cons_append, List.nil_append, List.set_cons_zero, List.set_cons_succ] <;> omega)) (fun w1 hw1 => f_stake r10 A10 cp10 sb (hs10).cap (hs10).len w1 6 (by omega) (fun p hp => hw1.own p (List.mem_append_left _ hp))) rfl ?_
   rintro _ _ ⟨rfl, rfl⟩
   obtain ⟨A11, cp11, r11, nx11, er11, eA11⟩ : ∃ a b x, ∃ _ : Nxt A cp r a b x, ∃ _ : x = (r10.drop 6), srcE sb (cutA A10 cp10 6) (cp10 - 6) (r10.drop 6) = srcE sb a b x := ⟨_, _, _, nx10.trans (Nxt.cut (n := 6) (r := r10) (by first | omega | (simp; done) | (simp; omega)) nx10.cap), rfl, rfl⟩
   rw [eA11]
   have hs11 := hsrc.nxt nx11
   have hcap10 := hs10.cap
   refine RL.perm (L' := Ll ++ (Lm ++ (Ls ++ (Lf ++ [(b3, cel 69 (clCells (r.take 16) (.slice Af fs.length cf) (sl) (.slice Am (ls).length cm))), (b2, cel 69 [.int .u8 0, .int .u8 0, .int .u8 0, .int .u8 0, .int .u8 0, .int .u8 0, .int .u8 0, .int .u8 0, .int .u8 0, .int .u8 0, .int .u8 0, .int .u8 0, .int .u8 0, .int .u8 0, .int .u8 0, .int .u8 0, .slice none 0 0, .int .i64 0, .slice none 0 0]), srcE sb A11 cp11 r11])))) rfl (by classical exact List.perm_iff_count.2 (fun z => by simp only [List.count_append, List.count_cons, List.count_nil, List.cons_append, List.nil_append, List.set_cons_zero, List.set_cons_succ] <;> omega)) ?_
   refine RL.assign rfl ?_
   refine RL.nil ?_
   refine X.set [.val (.slice Al l.length cl2), .val (.slice A10 6 cp10), .val (.pointer (some ⟨b6, o6 + 0 * 1, none⟩)), .val (.int .u8 (r10.getD 0 0)), .val (.int .i64 (r10.getD 0 0)), .val (.slice A10 6 cp10), .val (.slice (some ⟨b6, o6 + 2, none⟩) 4 (cp10 - 2)), .val (.int .u32 (num32 (r10.getD 2 0) (r10.getD 3 0) (r10.getD 4 0) (r10.getD 5 0))), .val (.int .i32 (i32 (num32 (r10.getD 2 0) (r10.getD 3 0) (r10.getD 4 0) (r10.getD 5 0)))), .val (.int .i64 (i32 (num32 (r10.getD 2 0) (r10.getD 3 0) (r10.getD 4 0) (r10.getD 5 0)))), .val (.slice A10 6 cp10), .val (.pointer (some ⟨b6, o6 + 1 * 1, none⟩)), .val (.int .u8 (r10.getD 1 0)), .val (.int .i64 (r10.getD 1 0)), .val (.agg (⟨r10.getD 0 0, i32 (num32 (r10.getD 2 0) (r10.getD 3 0) (r10.getD 4 0) (r10.getD 5 0)), r10.getD 1 0⟩ : Ins).cells.toArray), .any, .any, .any] [[], [], [1], [1, 2], [1, 2, 3], [], [5], [5, 6], [5, 6, 7], [5, 6, 7, 8], [], [10], [10, 11], [10, 11, 12], [1, 2, 3, 4, 5, 6, 7, 8, 9, 10, 11, 12, 13], [1, 2, 3, 4, 5, 6, 7, 8, 9, 10, 11, 12, 13, 14], [0, 1, 2, 3, 4, 5, 6, 7, 8, 9, 10, 11, 12, 13, 14, 15], [0, 1, 2, 3, 4, 5, 6, 7, 8, 9, 10, 11, 12, 13, 14, 15, 16]] (fun D ρ L => (D 15 = false ∧ D 16 = false ∧ D 17 = false ∧ True ∧ Has ρ [] ∧ L.Perm ((Ll) ++ ((Lm) ++ ((Ls) ++ ((Lf) ++ (([(b3, cel 69 (clCells (r.take 16) (.slice Af fs.length cf) (sl) (.slice Am (ls).length cm)))]) ++ (([(b2, cel 69 [.int .u8 0, .int .u8 0, .int .u8 0, .int .u8 0, .int .u8 0, .int .u8 0, .int .u8 0, .int .u8 0, .int .u8 0, .int .u8 0, .int .u8 0, .int .u8 0, .int .u8 0, .int .u8 0, .int .u8 0, .int .u8 0, .slice none 0 0, .int .i64 0, .slice none 0 0])]) ++ ([srcE sb A11 cp11 r11])))))))) ∨ (D 15 = true ∧ D 16 = false ∧ D 17 = false ∧ True ∧ ∃ bb57 : Nat, Has ρ [(57, .slice (some ⟨bb57, 0, none⟩) 1 1)] ∧ L.Perm ((Ll) ++ ((Lm) ++ ((Ls) ++ ((Lf) ++ (([(b3, cel 69 (clCells (r.take 16) (.slice Af fs.length cf) (sl) (.slice Am (ls).length cm)))]) ++ (([(b2, cel 69 [.int .u8 0, .int .u8 0, .int .u8 0, .int .u8 0, .int .u8 0, .int .u8 0, .int .u8 0, .int .u8 0, .int .u8 0, .int .u8 0, .int .u8 0, .int .u8 0, .int .u8 0, .int .u8 0, .int .u8 0, .int .u8 0, .slice none 0 0, .int .i64 0, .slice none 0 0])]) ++ (([srcE sb A11 cp11 r11]) ++ ([(bb57, cel 77 (⟨r10.getD 0 0, i32 (num32 (r10.getD 2 0) (r10.getD 3 0) (r10.getD 4 0) (r10.getD 5 0)), r10.getD 1 0⟩ : Ins).cells)]))))))))) ∨ (D 15 = true ∧ D 16 = true ∧ D 17 = false ∧ True ∧ ∃ bb57 : Nat, ∃ A58 : Option Addr, ∃ cp58 : Nat, ∃ Lr58 : List Ent, (Row 77 3 (.slice A58 (l ++ [(⟨r10.getD 0 0, i32 (num32 (r10.getD 2 0) (r10.getD 3 0) (r10.getD 4 0) (r10.getD 5 0)), r10.getD 1 0⟩ : Ins)]).length cp58) (icells (l ++ [(⟨r10.getD 0 0, i32 (num32 (r10.getD 2 0) (r10.getD 3 0) (r10.getD 4 0) (r10.getD 5 0)), r10.getD 1 0⟩ : Ins)])) Lr58) ∧ Has ρ [(57, .slice (some ⟨bb57, 0, none⟩) 1 1), (58, .slice A58 (l ++ [(⟨r10.getD 0 0, i32 (num32 (r10.getD 2 0) (r10.getD 3 0) (r10.getD 4 0) (r10.getD 5 0)), r10.getD 1 0⟩ : Ins)]).length cp58)] ∧ L.Perm ((Lr58) ++ ((Lm) ++ ((Ls) ++ ((Lf) ++ (([(b3, cel 69 (clCells (r.take 16) (.slice Af fs.length cf) (sl) (.slice Am (ls).length cm)))]) ++ (([(b2, cel 69 [.int .u8 0, .int .u8 0, .int .u8 0, .int .u8 0, .int .u8 0, .int .u8 0, .int .u8 0, .int .u8 0, .int .u8 0, .int .u8 0, .int .u8 0, .int .u8 0, .int .u8 0, .int .u8 0, .int .u8 0, .int .u8 0, .slice none 0 0, .int .i64 0, .slice none 0 0])]) ++ (([srcE sb A11 cp11 r11]) ++ ([(bb57, cel 77 (⟨r10.getD 0 0, i32 (num32 (r10.getD 2 0) (r10.getD 3 0) (r10.getD 4 0) (r10.getD 5 0)), r10.getD 1 0⟩ : Ins).cells)]))))))))) ∨ (D 15 = true ∧ D 16 = true ∧ D 17 = true ∧ True ∧ ∃ bb57 : Nat, ∃ A58 : Option Addr, ∃ cp58 : Nat, ∃ Lr58 : List Ent, (Row 77 3 (.slice A58 (l ++ [(⟨r10.getD 0 0, i32 (num32 (r10.getD 2 0) (r10.getD 3 0) (r10.getD 4 0) (r10.getD 5 0)), r10.getD 1 0⟩ : Ins)]).length cp58) (icells (l ++ [(⟨r10.getD 0 0, i32 (num32 (r10.getD 2 0) (r10.getD 3 0) (r10.getD 4 0) (r10.getD 5 0)), r10.getD 1 0⟩ : Ins)])) Lr58) ∧ Has ρ [(4, .slice A58 (l ++ [(⟨r10.getD 0 0, i32 (num32 (r10.getD 2 0) (r10.getD 3 0) (r10.getD 4 0) (r10.getD 5 0)), r10.getD 1 0⟩ : Ins)]).length cp58), (57, .slice (some ⟨bb57, 0, none⟩) 1 1), (58, .slice A58 (l ++ [(⟨r10.getD 0 0, i32 (num32 (r10.getD 2 0) (r10.getD 3 0) (r10.getD 4 0) (r10.getD 5 0)), r10.getD 1 0⟩ : Ins)]).length cp58)] ∧ L.Perm ((Lr58) ++ ((Lm) ++ ((Ls) ++ ((Lf) ++ (([(b3, cel 69 (clCells (r.take 16) (.slice Af fs.length cf) (sl) (.slice Am (ls).length cm)))]) ++ (([(b2, cel 69 [.int .u8 0, .int .u8 0, .int .u8 0, .int .u8 0, .int .u8 0, .int .u8 0, .int .u8 0, .int .u8 0, .int .u8 0, .int .u8 0, .int .u8 0, .int .u8 0, .int .u8 0, .int .u8 0, .int .u8 0, .int .u8 0, .slice none 0 0, .int .i64 0, .slice none 0 0])]) ++ (([srcE sb A11 cp11 r11]) ++ ([(bb57, cel 77 (⟨r10.getD 0 0, i32 (num32 (r10.getD 2 0) (r10.getD 3 0) (r10.getD 4 0) (r10.getD 5 0)), r10.getD 1 0⟩ : Ins).cells)])))))))))) rfl (by kernel_rfl) (by kernel_rfl) (by kernel_rfl) (by kernel_rfl) (fun D hD => .inl ⟨hD 15, hD 16, hD 17, trivial, trivial, (List.Perm.refl _)⟩) ⟨?_, ?_, ?_, ?_, ?_, ?_, ?_, ?_, ?_, ?_, ?_, ?_, ?_, ?_, ?_, ?_, ?_, ?_, trivial⟩ ?_
   ·intro ρ L D hS
    rcases hS.sp with ⟨e15, e16, e17, -, hρ, hL⟩ | ⟨e15, e16, e17, -, bb57, hρ, hL⟩ | ⟨e15, e16, e17, -, bb57, A58, cp58, Lr58, hp0, hρ, hL⟩ | ⟨e15, e16, e17, -, bb57, A58, cp58, Lr58, hp0, hρ, hL⟩
    ·have u4 : ρ 4 = .slice Al l.length cl2 := hS.old 17 _ 4 rfl rfl ⟨⟨0, Ground.phase⟩, by simp, rfl, rfl⟩
     clear hS hρ
     obtain ⟨base, rfl⟩ := Has.base (ρ := ρ) (l := [(4, .slice Al l.length cl2)]) ⟨u4, trivial⟩
     clear u4
     refine RL.perm rfl hL.symm ?_
     clear hL
     refine RL.move rfl ?_
     refine RL.nil ?_
     exact ⟨rfl, ⟨_, rfl, rfl⟩, .inl ⟨e15, e16, e17, trivial, trivial, List.Perm.refl _⟩⟩
    ·have u4 : ρ 4 = .slice Al l.length cl2 := hS.old 17 _ 4 rfl rfl ⟨⟨0, Ground.phase⟩, by simp, rfl, rfl⟩
     have u57 : ρ 57 = .slice (some ⟨bb57, 0, none⟩) 1 1 := hρ.1
     clear hS hρ
     obtain ⟨base, rfl⟩ := Has.base (ρ := ρ) (l := [(4, .slice Al l.length cl2), (57, .slice (some ⟨bb57, 0, none⟩) 1 1)]) ⟨u4, u57, trivial⟩
     clear u4 u57
     refine RL.perm rfl hL.symm ?_
     clear hL
     refine RL.move rfl ?_
     refine RL.nil ?_
     exact ⟨rfl, ⟨_, rfl, rfl⟩, .inr (.inl ⟨e15, e16, e17, trivial, bb57, ⟨rfl, trivial⟩, List.Perm.refl _⟩)⟩
    ·exact hS.hi 16 rfl (by kernel_rfl) e16
    exact hS.hi 16 rfl (by kernel_rfl) e16
   ·intro ρ L D hS
    rcases hS.sp with ⟨e15, e16, e17, -, hρ, hL⟩ | ⟨e15, e16, e17, -, bb57, hρ, hL⟩ | ⟨e15, e16, e17, -, bb57, A58, cp58, Lr58, hp0, hρ, hL⟩ | ⟨e15, e16, e17, -, bb57, A58, cp58, Lr58, hp0, hρ, hL⟩
    ·have u5 : ρ 5 = .slice A10 6 cp10 := hS.fix 5 (by decide)
     clear hS hρ
     obtain ⟨base, rfl⟩ := Has.base (ρ := ρ) (l := [(5, .slice A10 6 cp10)]) ⟨u5, trivial⟩
     clear u5
     refine RL.perm rfl hL.symm ?_
     clear hL
     refine RL.move rfl ?_
     refine RL.nil ?_
     exact ⟨rfl, ⟨_, rfl, rfl⟩, .inl ⟨e15, e16, e17, trivial, trivial, List.Perm.refl _⟩⟩
    ·exact hS.hi 15 rfl (by kernel_rfl) e15
    ·exact hS.hi 15 rfl (by kernel_rfl) e15
    exact hS.hi 15 rfl (by kernel_rfl) e15
   ·intro ρ L D hS
    rcases hS.sp with ⟨e15, e16, e17, -, hρ, hL⟩ | ⟨e15, e16, e17, -, bb57, hρ, hL⟩ | ⟨e15, e16, e17, -, bb57, A58, cp58, Lr58, hp0, hρ, hL⟩ | ⟨e15, e16, e17, -, bb57, A58, cp58, Lr58, hp0, hρ, hL⟩
    ·have u43 : ρ 43 = .slice A10 6 cp10 := hS.dep ⟨1, Ground.data⟩ (by simp) rfl _ _ rfl rfl
     clear hS hρ
     obtain ⟨base, rfl⟩ := Has.base (ρ := ρ) (l := [(43, .slice A10 6 cp10)]) ⟨u43, trivial⟩
     clear u43
     refine RL.perm rfl hL.symm ?_
     clear hL
     refine RL.indexAddr rfl sl84 rfl rfl (j := 0) (by show A10 = _; exact eA10) rfl (by decide) ?_
     refine RL.nil ?_
     exact ⟨rfl, ⟨_, rfl, rfl⟩, .inl ⟨e15, e16, e17, trivial, trivial, List.Perm.refl _⟩⟩
    ·exact hS.hi 15 rfl (by kernel_rfl) e15
    ·exact hS.hi 15 rfl (by kernel_rfl) e15
    exact hS.hi 15 rfl (by kernel_rfl) e15
   ·intro ρ L D hS
    rcases hS.sp with ⟨e15, e16, e17, -, hρ, hL⟩ | ⟨e15, e16, e17, -, bb57, hρ, hL⟩ | ⟨e15, e16, e17, -, bb57, A58, cp58, Lr58, hp0, hρ, hL⟩ | ⟨e15, e16, e17, -, bb57, A58, cp58, Lr58, hp0, hρ, hL⟩
    ·have u44 : ρ 44 = .pointer (some ⟨b6, o6 + 0 * 1, none⟩) := hS.dep ⟨2, Ground.data⟩ (by simp) rfl _ _ rfl rfl
     clear hS hρ
     obtain ⟨base, rfl⟩ := Has.base (ρ := ρ) (l := [(44, .pointer (some ⟨b6, o6 + 0 * 1, none⟩))]) ⟨u44, trivial⟩
     clear u44
     refine RL.perm rfl hL.symm ?_
     clear hL
     refine RL.loadI rfl sc5 rfl (cell_d hcel6 (by omega)) hb6 ?_
     refine RL.nil ?_
     exact ⟨rfl, ⟨_, rfl, rfl⟩, .inl ⟨e15, e16, e17, trivial, trivial, List.Perm.refl _⟩⟩
    ·exact hS.hi 15 rfl (by kernel_rfl) e15
    ·exact hS.hi 15 rfl (by kernel_rfl) e15
    exact hS.hi 15 rfl (by kernel_rfl) e15
   ·intro ρ L D hS
    rcases hS.sp with ⟨e15, e16, e17, -, hρ, hL⟩ | ⟨e15, e16, e17, -, bb57, hρ, hL⟩ | ⟨e15, e16, e17, -, bb57, A58, cp58, Lr58, hp0, hρ, hL⟩ | ⟨e15, e16, e17, -, bb57, A58, cp58, Lr58, hp0, hρ, hL⟩
    ·have u45 : ρ 45 = .int .u8 (r10.getD 0 0) := hS.dep ⟨3, Ground.data⟩ (by simp) rfl _ _ rfl rfl
     clear hS hρ
     obtain ⟨base, rfl⟩ := Has.base (ρ := ρ) (l := [(45, .int .u8 (r10.getD 0 0))]) ⟨u45, trivial⟩
     clear u45
     refine RL.perm rfl hL.symm ?_
     clear hL
     refine RL.convE rfl Try.underlying5 Try.underlying3 rfl (wrap_i64 (by have := hs10.byt.at 0; omega)) ?_
     refine RL.nil ?_
     exact ⟨rfl, ⟨_, rfl, rfl⟩, .inl ⟨e15, e16, e17, trivial, trivial, List.Perm.refl _⟩⟩
    ·exact hS.hi 15 rfl (by kernel_rfl) e15
    ·exact hS.hi 15 rfl (by kernel_rfl) e15
    exact hS.hi 15 rfl (by kernel_rfl) e15
   ·intro ρ L D hS
    rcases hS.sp with ⟨e15, e16, e17, -, hρ, hL⟩ | ⟨e15, e16, e17, -, bb57, hρ, hL⟩ | ⟨e15, e16, e17, -, bb57, A58, cp58, Lr58, hp0, hρ, hL⟩ | ⟨e15, e16, e17, -, bb57, A58, cp58, Lr58, hp0, hρ, hL⟩
    ·have u5 : ρ 5 = .slice A10 6 cp10 := hS.fix 5 (by decide)
     clear hS hρ
     obtain ⟨base, rfl⟩ := Has.base (ρ := ρ) (l := [(5, .slice A10 6 cp10)]) ⟨u5, trivial⟩
     clear u5
     refine RL.perm rfl hL.symm ?_
     clear hL
     refine RL.move rfl ?_
     refine RL.nil ?_
     exact ⟨rfl, ⟨_, rfl, rfl⟩, .inl ⟨e15, e16, e17, trivial, trivial, List.Perm.refl _⟩⟩
    ·exact hS.hi 15 rfl (by kernel_rfl) e15
    ·exact hS.hi 15 rfl (by kernel_rfl) e15
    exact hS.hi 15 rfl (by kernel_rfl) e15
   ·intro ρ L D hS
    rcases hS.sp with ⟨e15, e16, e17, -, hρ, hL⟩ | ⟨e15, e16, e17, -, bb57, hρ, hL⟩ | ⟨e15, e16, e17, -, bb57, A58, cp58, Lr58, hp0, hρ, hL⟩ | ⟨e15, e16, e17, -, bb57, A58, cp58, Lr58, hp0, hρ, hL⟩
    ·have u47 : ρ 47 = .slice A10 6 cp10 := hS.dep ⟨5, Ground.data⟩ (by simp) rfl _ _ rfl rfl
     clear hS hρ
     obtain ⟨base, rfl⟩ := Has.base (ρ := ρ) (l := [(47, .slice A10 6 cp10)]) ⟨u47, trivial⟩
     clear u47
     refine RL.perm rfl hL.symm ?_
     clear hL
     refine RL.sliceLo (j := 2) rfl sl84 rfl rfl rfl (by decide) (by omega) ?_
     rw [if_neg (by omega), eA10]
     show RL _ _ _ _ _ (updO _ _ (.slice (some (Addr.add ⟨b6, o6, none⟩ (2 * 1))) 4 (cp10 - 2))) _ _
     rw [addr_add]
     refine RL.nil ?_
     exact ⟨rfl, ⟨_, rfl, rfl⟩, .inl ⟨e15, e16, e17, trivial, trivial, List.Perm.refl _⟩⟩
    ·exact hS.hi 15 rfl (by kernel_rfl) e15
    ·exact hS.hi 15 rfl (by kernel_rfl) e15
    exact hS.hi 15 rfl (by kernel_rfl) e15
   ·intro ρ L D hS
    rcases hS.sp with ⟨e15, e16, e17, -, hρ, hL⟩ | ⟨e15, e16, e17, -, bb57, hρ, hL⟩ | ⟨e15, e16, e17, -, bb57, A58, cp58, Lr58, hp0, hρ, hL⟩ | ⟨e15, e16, e17, -, bb57, A58, cp58, Lr58, hp0, hρ, hL⟩
    ·have u48 : ρ 48 = .slice (some ⟨b6, o6 + 2, none⟩) 4 (cp10 - 2) := hS.dep ⟨6, Ground.data⟩ (by simp) rfl _ _ rfl rfl
     clear hS hρ
     obtain ⟨base, rfl⟩ := Has.base (ρ := ρ) (l := [(48, .slice (some ⟨b6, o6 + 2, none⟩) 4 (cp10 - 2))]) ⟨u48, trivial⟩
     clear u48
     refine RL.perm rfl hL.symm ?_
     clear hL
     refine RL.fnQ rfl rfl en55 (fun w1 hw1 => f_number4 hs10.byt h6 (hcel6) hb6 hw1 (by omega)) rfl ?_
     refine RL.nil ?_
     exact ⟨rfl, ⟨_, rfl, rfl⟩, .inl ⟨e15, e16, e17, trivial, trivial, List.Perm.refl _⟩⟩
    ·exact hS.hi 15 rfl (by kernel_rfl) e15
    ·exact hS.hi 15 rfl (by kernel_rfl) e15
    exact hS.hi 15 rfl (by kernel_rfl) e15
   ·intro ρ L D hS
    rcases hS.sp with ⟨e15, e16, e17, -, hρ, hL⟩ | ⟨e15, e16, e17, -, bb57, hρ, hL⟩ | ⟨e15, e16, e17, -, bb57, A58, cp58, Lr58, hp0, hρ, hL⟩ | ⟨e15, e16, e17, -, bb57, A58, cp58, Lr58, hp0, hρ, hL⟩
    ·have u49 : ρ 49 = .int .u32 (num32 (r10.getD 2 0) (r10.getD 3 0) (r10.getD 4 0) (r10.getD 5 0)) := hS.dep ⟨7, Ground.data⟩ (by simp) rfl _ _ rfl rfl
     clear hS hρ
     obtain ⟨base, rfl⟩ := Has.base (ρ := ρ) (l := [(49, .int .u32 (num32 (r10.getD 2 0) (r10.getD 3 0) (r10.getD 4 0) (r10.getD 5 0)))]) ⟨u49, trivial⟩
     clear u49
     refine RL.perm rfl hL.symm ?_
     clear hL
     refine RL.conv rfl Try.underlying55 Try.underlying21 rfl ?_
     refine RL.nil ?_
     exact ⟨rfl, ⟨_, rfl, rfl⟩, .inl ⟨e15, e16, e17, trivial, trivial, List.Perm.refl _⟩⟩
    ·exact hS.hi 15 rfl (by kernel_rfl) e15
    ·exact hS.hi 15 rfl (by kernel_rfl) e15
    exact hS.hi 15 rfl (by kernel_rfl) e15
   ·intro ρ L D hS
    rcases hS.sp with ⟨e15, e16, e17, -, hρ, hL⟩ | ⟨e15, e16, e17, -, bb57, hρ, hL⟩ | ⟨e15, e16, e17, -, bb57, A58, cp58, Lr58, hp0, hρ, hL⟩ | ⟨e15, e16, e17, -, bb57, A58, cp58, Lr58, hp0, hρ, hL⟩
    ·have u50 : ρ 50 = .int .i32 (i32 (num32 (r10.getD 2 0) (r10.getD 3 0) (r10.getD 4 0) (r10.getD 5 0))) := hS.dep ⟨8, Ground.data⟩ (by simp) rfl _ _ rfl rfl
     clear hS hρ
     obtain ⟨base, rfl⟩ := Has.base (ρ := ρ) (l := [(50, .int .i32 (i32 (num32 (r10.getD 2 0) (r10.getD 3 0) (r10.getD 4 0) (r10.getD 5 0))))]) ⟨u50, trivial⟩
     clear u50
     refine RL.perm rfl hL.symm ?_
     clear hL
     refine RL.convE rfl Try.underlying21 Try.underlying3 rfl (wrap_i64 (i32_range _)) ?_
     refine RL.nil ?_
     exact ⟨rfl, ⟨_, rfl, rfl⟩, .inl ⟨e15, e16, e17, trivial, trivial, List.Perm.refl _⟩⟩
    ·exact hS.hi 15 rfl (by kernel_rfl) e15
    ·exact hS.hi 15 rfl (by kernel_rfl) e15
    exact hS.hi 15 rfl (by kernel_rfl) e15
   ·intro ρ L D hS
    rcases hS.sp with ⟨e15, e16, e17, -, hρ, hL⟩ | ⟨e15, e16, e17, -, bb57, hρ, hL⟩ | ⟨e15, e16, e17, -, bb57, A58, cp58, Lr58, hp0, hρ, hL⟩ | ⟨e15, e16, e17, -, bb57, A58, cp58, Lr58, hp0, hρ, hL⟩
    ·have u5 : ρ 5 = .slice A10 6 cp10 := hS.fix 5 (by decide)
     clear hS hρ
     obtain ⟨base, rfl⟩ := Has.base (ρ := ρ) (l := [(5, .slice A10 6 cp10)]) ⟨u5, trivial⟩
     clear u5
     refine RL.perm rfl hL.symm ?_
     clear hL
     refine RL.move rfl ?_
     refine RL.nil ?_
     exact ⟨rfl, ⟨_, rfl, rfl⟩, .inl ⟨e15, e16, e17, trivial, trivial, List.Perm.refl _⟩⟩
    ·exact hS.hi 15 rfl (by kernel_rfl) e15
    ·exact hS.hi 15 rfl (by kernel_rfl) e15
    exact hS.hi 15 rfl (by kernel_rfl) e15
   ·intro ρ L D hS
    rcases hS.sp with ⟨e15, e16, e17, -, hρ, hL⟩ | ⟨e15, e16, e17, -, bb57, hρ, hL⟩ | ⟨e15, e16, e17, -, bb57, A58, cp58, Lr58, hp0, hρ, hL⟩ | ⟨e15, e16, e17, -, bb57, A58, cp58, Lr58, hp0, hρ, hL⟩
    ·have u52 : ρ 52 = .slice A10 6 cp10 := hS.dep ⟨10, Ground.data⟩ (by simp) rfl _ _ rfl rfl
     clear hS hρ
     obtain ⟨base, rfl⟩ := Has.base (ρ := ρ) (l := [(52, .slice A10 6 cp10)]) ⟨u52, trivial⟩
     clear u52
     refine RL.perm rfl hL.symm ?_
     clear hL
     refine RL.indexAddr rfl sl84 rfl rfl (j := 1) (by show A10 = _; exact eA10) rfl (by decide) ?_
     refine RL.nil ?_
     exact ⟨rfl, ⟨_, rfl, rfl⟩, .inl ⟨e15, e16, e17, trivial, trivial, List.Perm.refl _⟩⟩
    ·exact hS.hi 15 rfl (by kernel_rfl) e15
    ·exact hS.hi 15 rfl (by kernel_rfl) e15
    exact hS.hi 15 rfl (by kernel_rfl) e15
   ·intro ρ L D hS
    rcases hS.sp with ⟨e15, e16, e17, -, hρ, hL⟩ | ⟨e15, e16, e17, -, bb57, hρ, hL⟩ | ⟨e15, e16, e17, -, bb57, A58, cp58, Lr58, hp0, hρ, hL⟩ | ⟨e15, e16, e17, -, bb57, A58, cp58, Lr58, hp0, hρ, hL⟩
    ·have u53 : ρ 53 = .pointer (some ⟨b6, o6 + 1 * 1, none⟩) := hS.dep ⟨11, Ground.data⟩ (by simp) rfl _ _ rfl rfl
     clear hS hρ
     obtain ⟨base, rfl⟩ := Has.base (ρ := ρ) (l := [(53, .pointer (some ⟨b6, o6 + 1 * 1, none⟩))]) ⟨u53, trivial⟩
     clear u53
     refine RL.perm rfl hL.symm ?_
     clear hL
     refine RL.loadI rfl sc5 rfl (cell_d hcel6 (by omega)) hb6 ?_
     refine RL.nil ?_
     exact ⟨rfl, ⟨_, rfl, rfl⟩, .inl ⟨e15, e16, e17, trivial, trivial, List.Perm.refl _⟩⟩
    ·exact hS.hi 15 rfl (by kernel_rfl) e15
    ·exact hS.hi 15 rfl (by kernel_rfl) e15
    exact hS.hi 15 rfl (by kernel_rfl) e15
   ·intro ρ L D hS
    rcases hS.sp with ⟨e15, e16, e17, -, hρ, hL⟩ | ⟨e15, e16, e17, -, bb57, hρ, hL⟩ | ⟨e15, e16, e17, -, bb57, A58, cp58, Lr58, hp0, hρ, hL⟩ | ⟨e15, e16, e17, -, bb57, A58, cp58, Lr58, hp0, hρ, hL⟩
    ·have u54 : ρ 54 = .int .u8 (r10.getD 1 0) := hS.dep ⟨12, Ground.data⟩ (by simp) rfl _ _ rfl rfl
     clear hS hρ
     obtain ⟨base, rfl⟩ := Has.base (ρ := ρ) (l := [(54, .int .u8 (r10.getD 1 0))]) ⟨u54, trivial⟩
     clear u54
     refine RL.perm rfl hL.symm ?_
     clear hL
     refine RL.convE rfl Try.underlying5 Try.underlying3 rfl (wrap_i64 (by have := hs10.byt.at 1; omega)) ?_
     refine RL.nil ?_
     exact ⟨rfl, ⟨_, rfl, rfl⟩, .inl ⟨e15, e16, e17, trivial, trivial, List.Perm.refl _⟩⟩
    ·exact hS.hi 15 rfl (by kernel_rfl) e15
    ·exact hS.hi 15 rfl (by kernel_rfl) e15
    exact hS.hi 15 rfl (by kernel_rfl) e15
   ·intro ρ L D hS
    rcases hS.sp with ⟨e15, e16, e17, -, hρ, hL⟩ | ⟨e15, e16, e17, -, bb57, hρ, hL⟩ | ⟨e15, e16, e17, -, bb57, A58, cp58, Lr58, hp0, hρ, hL⟩ | ⟨e15, e16, e17, -, bb57, A58, cp58, Lr58, hp0, hρ, hL⟩
    ·have u46 : ρ 46 = .int .i64 (r10.getD 0 0) := hS.dep ⟨4, Ground.data⟩ (by simp) rfl _ _ rfl rfl
     have u51 : ρ 51 = .int .i64 (i32 (num32 (r10.getD 2 0) (r10.getD 3 0) (r10.getD 4 0) (r10.getD 5 0))) := hS.dep ⟨9, Ground.data⟩ (by simp) rfl _ _ rfl rfl
     have u55 : ρ 55 = .int .i64 (r10.getD 1 0) := hS.dep ⟨13, Ground.data⟩ (by simp) rfl _ _ rfl rfl
     clear hS hρ
     obtain ⟨base, rfl⟩ := Has.base (ρ := ρ) (l := [(46, .int .i64 (r10.getD 0 0)), (51, .int .i64 (i32 (num32 (r10.getD 2 0) (r10.getD 3 0) (r10.getD 4 0) (r10.getD 5 0)))), (55, .int .i64 (r10.getD 1 0))]) ⟨u46, u51, u55, trivial⟩
     clear u46 u51 u55
     refine RL.perm rfl hL.symm ?_
     clear hL
     refine RL.bldC (vs := [(0, .int .i64 (r10.getD 0 0)), (1, .int .i64 (i32 (num32 (r10.getD 2 0) (r10.getD 3 0) (r10.getD 4 0) (r10.getD 5 0)))), (2, .int .i64 (r10.getD 1 0))]) (cells := (⟨r10.getD 0 0, i32 (num32 (r10.getD 2 0) (r10.getD 3 0) (r10.getD 4 0) (r10.getD 5 0)), r10.getD 1 0⟩ : Ins).cells) rfl rfl (fun w => by kernel_rfl) ?_
     refine RL.nil ?_
     exact ⟨rfl, ⟨_, rfl, rfl⟩, .inl ⟨e15, e16, e17, trivial, trivial, List.Perm.refl _⟩⟩
    ·exact hS.hi 15 rfl (by kernel_rfl) e15
    ·exact hS.hi 15 rfl (by kernel_rfl) e15
    exact hS.hi 15 rfl (by kernel_rfl) e15
   ·intro ρ L D hS
    rcases hS.sp with ⟨e15, e16, e17, -, hρ, hL⟩ | ⟨e15, e16, e17, -, bb57, hρ, hL⟩ | ⟨e15, e16, e17, -, bb57, A58, cp58, Lr58, hp0, hρ, hL⟩ | ⟨e15, e16, e17, -, bb57, A58, cp58, Lr58, hp0, hρ, hL⟩
    ·have u56 : ρ 56 = .agg (⟨r10.getD 0 0, i32 (num32 (r10.getD 2 0) (r10.getD 3 0) (r10.getD 4 0) (r10.getD 5 0)), r10.getD 1 0⟩ : Ins).cells.toArray := hS.dep ⟨14, Ground.data⟩ (by simp) rfl _ _ rfl rfl
     clear hS hρ
     obtain ⟨base, rfl⟩ := Has.base (ρ := ρ) (l := [(56, .agg (⟨r10.getD 0 0, i32 (num32 (r10.getD 2 0) (r10.getD 3 0) (r10.getD 4 0) (r10.getD 5 0)), r10.getD 1 0⟩ : Ins).cells.toArray)]) ⟨u56, trivial⟩
     clear u56
     refine RL.perm rfl hL.symm ?_
     clear hL
     refine RL.bs1A rfl rfl sl78 zt77 rfl (Ins.len _) (by decide) ?_
     intro bb57 hbb57
     refine RL.nil ?_
     exact ⟨rfl, ⟨_, rfl, trivial⟩, .inr (.inl ⟨rfl, e16, e17, trivial, bb57, ⟨rfl, trivial⟩, (pmm fun _ _ z => by simp only [pm1, pm2, pm3, pm4, pm5, pm6, List.cons_append, List.nil_append] <;> omega)⟩)⟩
    ·exact hS.me e15
    ·exact hS.hi 16 rfl (by kernel_rfl) e16
    exact hS.hi 16 rfl (by kernel_rfl) e16
   ·intro ρ L D hS
    rcases hS.sp with ⟨e15, e16, e17, -, hρ, hL⟩ | ⟨e15, e16, e17, -, bb57, hρ, hL⟩ | ⟨e15, e16, e17, -, bb57, A58, cp58, Lr58, hp0, hρ, hL⟩ | ⟨e15, e16, e17, -, bb57, A58, cp58, Lr58, hp0, hρ, hL⟩
    ·exact hS.lo 15 (by kernel_rfl) e15
    ·have u42 : ρ 42 = .slice Al l.length cl2 := hS.dep ⟨0, Ground.data⟩ (by simp) rfl _ _ rfl rfl
     have u57 : ρ 57 = .slice (some ⟨bb57, 0, none⟩) 1 1 := hρ.1
     clear hS hρ
     obtain ⟨base, rfl⟩ := Has.base (ρ := ρ) (l := [(42, .slice Al l.length cl2), (57, .slice (some ⟨bb57, 0, none⟩) 1 1)]) ⟨u42, u57, trivial⟩
     clear u42 u57
     refine RL.perm rfl hL.symm ?_
     clear hL
     refine RL.appB (Lr := Ll) (xs := icells l) (ys := (⟨r10.getD 0 0, i32 (num32 (r10.getD 2 0) (r10.getD 3 0) (r10.getD 4 0) (r10.getD 5 0)), r10.getD 1 0⟩ : Ins).cells) (N := (l ++ [(⟨r10.getD 0 0, i32 (num32 (r10.getD 2 0) (r10.getD 3 0) (r10.getD 4 0) (r10.getD 5 0)), r10.getD 1 0⟩ : Ins)]).length) rfl rfl sl78 el_ins (by decide) (by decide) Try.underlying78 rfl hrl rfl (List.Perm.refl _) (by simp) (Ins.len _) (Ins.one _) (by omega) (by simp) ?_
     intro A58 cp58 Lr58 hr58
     rw [← icells_snoc] at hr58
     refine RL.nil ?_
     exact ⟨rfl, ⟨_, rfl, trivial⟩, .inr (.inr (.inl ⟨e15, rfl, e17, trivial, bb57, A58, cp58, Lr58, hr58, ⟨rfl, rfl, trivial⟩, (pmm fun _ _ z => by simp only [pm1, pm2, pm3, pm4, pm5, pm6, List.cons_append, List.nil_append] <;> omega)⟩))⟩
    ·exact hS.me e16
    exact hS.hi 17 rfl (by kernel_rfl) e17
   ·intro ρ L D hS
    rcases hS.sp with ⟨e15, e16, e17, -, hρ, hL⟩ | ⟨e15, e16, e17, -, bb57, hρ, hL⟩ | ⟨e15, e16, e17, -, bb57, A58, cp58, Lr58, hp0, hρ, hL⟩ | ⟨e15, e16, e17, -, bb57, A58, cp58, Lr58, hp0, hρ, hL⟩
    ·exact hS.lo 15 (by kernel_rfl) e15
    ·exact hS.lo 16 (by kernel_rfl) e16
    ·have u57 : ρ 57 = .slice (some ⟨bb57, 0, none⟩) 1 1 := hρ.1
     have u58 : ρ 58 = .slice A58 (l ++ [(⟨r10.getD 0 0, i32 (num32 (r10.getD 2 0) (r10.getD 3 0) (r10.getD 4 0) (r10.getD 5 0)), r10.getD 1 0⟩ : Ins)]).length cp58 := hρ.2.1
     clear hS hρ
     obtain ⟨base, rfl⟩ := Has.base (ρ := ρ) (l := [(57, .slice (some ⟨bb57, 0, none⟩) 1 1), (58, .slice A58 (l ++ [(⟨r10.getD 0 0, i32 (num32 (r10.getD 2 0) (r10.getD 3 0) (r10.getD 4 0) (r10.getD 5 0)), r10.getD 1 0⟩ : Ins)]).length cp58)]) ⟨u57, u58, trivial⟩
     clear u57 u58
     refine RL.perm rfl hL.symm ?_
     clear hL
     refine RL.assign rfl ?_
     refine RL.nil ?_
     exact ⟨rfl, ⟨_, rfl, trivial⟩, .inr (.inr (.inr (⟨e15, e16, rfl, trivial, bb57, A58, cp58, Lr58, hp0, ⟨rfl, rfl, rfl, trivial⟩, (pmm fun _ _ z => by simp only [pm1, pm2, pm3, pm4, pm5, pm6, List.cons_append, List.nil_append] <;> omega)⟩)))⟩
    exact hS.me e17
   intro ρ L D hD hT hfix hsp
   rcases hsp with ⟨e15, e16, e17, -, hρ, hL⟩ | ⟨e15, e16, e17, -, bb57, hρ, hL⟩ | ⟨e15, e16, e17, -, bb57, A58, cp58, Lr58, hp0, hρ, hL⟩ | ⟨e15, e16, e17, -, bb57, A58, cp58, Lr58, hp0, hρ, hL⟩
   ·exact done_no hD 15 rfl e15
   ·exact done_no hD 16 rfl e16
   ·exact done_no hD 17 rfl e17
   have u0 : ρ 0 = .pointer (some ⟨sb, 0, none⟩) := hfix 0 (by decide)
   have u2 : ρ 2 = .pointer (some ⟨b2, 0, none⟩) := hfix 2 (by decide)
   have u3 : ρ 3 = .pointer (some ⟨b3, 0, none⟩) := hfix 3 (by decide)
   have u4 : ρ 4 = .slice A58 (l ++ [(⟨r10.getD 0 0, i32 (num32 (r10.getD 2 0) (r10.getD 3 0) (r10.getD 4 0) (r10.getD 5 0)), r10.getD 1 0⟩ : Ins)]).length cp58 := hρ.1
   have u33 : ρ 33 = .int .i64 nm := hfix 33 (by decide)
   have u34 : ρ 34 = .int .i64 g := hfix 34 (by decide)
   have u37 : ρ 37 = .int .i64 ni := hfix 37 (by decide)
   have u38 : ρ 38 = .int .i64 j := hfix 38 (by decide)
   have u57 : ρ 57 = .slice (some ⟨bb57, 0, none⟩) 1 1 := hρ.2.1
   have u58 : ρ 58 = .slice A58 (l ++ [(⟨r10.getD 0 0, i32 (num32 (r10.getD 2 0) (r10.getD 3 0) (r10.getD 4 0) (r10.getD 5 0)), r10.getD 1 0⟩ : Ins)]).length cp58 := hρ.2.2.1
   clear hT hfix hD hρ
   obtain ⟨base, rfl⟩ := Has.base (ρ := ρ) (l := [(0, .pointer (some ⟨sb, 0, none⟩)), (2, .pointer (some ⟨b2, 0, none⟩)), (3, .pointer (some ⟨b3, 0, none⟩)), (4, .slice A58 (l ++ [(⟨r10.getD 0 0, i32 (num32 (r10.getD 2 0) (r10.getD 3 0) (r10.getD 4 0) (r10.getD 5 0)), r10.getD 1 0⟩ : Ins)]).length cp58), (33, .int .i64 nm), (34, .int .i64 g), (37, .int .i64 ni), (38, .int .i64 j), (57, .slice (some ⟨bb57, 0, none⟩) 1 1), (58, .slice A58 (l ++ [(⟨r10.getD 0 0, i32 (num32 (r10.getD 2 0) (r10.getD 3 0) (r10.getD 4 0) (r10.getD 5 0)), r10.getD 1 0⟩ : Ins)]).length cp58)]) ⟨u0, u2, u3, u4, u33, u34, u37, u38, u57, u58, trivial⟩
   clear u0 u2 u3 u4 u33 u34 u37 u38 u57 u58
   refine ⟨_, hL.symm, ((Lr58) ++ ((Lm) ++ ((Ls) ++ ((Lf) ++ (([(b3, cel 69 (clCells (r.take 16) (.slice Af fs.length cf) (sl) (.slice Am (ls).length cm)))]) ++ (([(b2, cel 69 [.int .u8 0, .int .u8 0, .int .u8 0, .int .u8 0, .int .u8 0, .int .u8 0, .int .u8 0, .int .u8 0, .int .u8 0, .int .u8 0, .int .u8 0, .int .u8 0, .int .u8 0, .int .u8 0, .int .u8 0, .int .u8 0, .slice none 0 0, .int .i64 0, .slice none 0 0])]) ++ ([srcE sb A11 cp11 r11]))))))), List.Sublist.append (List.Sublist.refl _) (List.Sublist.append (List.Sublist.refl _) (List.Sublist.append (List.Sublist.refl _) (List.Sublist.append (List.Sublist.refl _) (List.Sublist.append (List.Sublist.refl _) (List.Sublist.append (List.Sublist.refl _) (List.sublist_append_left _ _)))))), ?_⟩
   refine X.blk ?_
   refine X.region rfl ?_
   refine RL.add rfl rfl rfl (by omega) ?_
   refine RL.move rfl ?_
   refine RL.nil ?_
   refine X.hyp ⟨rfl, j + 1, by omega, _, (List.Sublist.refl _), l ++ [(⟨r10.getD 0 0, i32 (num32 (r10.getD 2 0) (r10.getD 3 0) (r10.getD 4 0) (r10.getD 5 0)), r10.getD 1 0⟩ : Ins)], r11, A58, cp58, Lr58, A11, cp11, by omega, pN_next hpi (by unfold pIns; rw [if_neg h6, er11]), hp0, nx11, ⟨rfl, rfl, rfl, rfl, rfl, rfl, rfl, rfl, trivial⟩, rfl⟩
  replace hlt3 : ¬ ((_ : Int) < _) := hlt3
  have hjj : j = ni.toNat := by omega
  subst hjj
  refine RL.nil ?_
  refine X.seq ?_
  refine X.cond_f rfl ?_
  refine X.exit rfl ?_
  refine X.region rfl ?_
  refine RL.fieldAddr rfl fd69_3 rfl ?_
  refine RL.loadO rfl sc67 rfl (clCells_m hid) ?_
  refine RL.move rfl ?_
  refine RL.bs1 (l := [.slice Al l.length cl2]) rfl rfl sl67 zt78 rfl rfl rfl (by decide) ?_
  intro bb63 hbb63
  refine RL.perm (L' := Lm ++ ((bb63, cel 78 [.slice Al l.length cl2]) :: (Ll ++ (Ls ++ (Lf ++ [(b3, cel 69 (clCells (r.take 16) (.slice Af fs.length cf) (sl) (.slice Am (ls).length cm))), (b2, cel 69 [.int .u8 0, .int .u8 0, .int .u8 0, .int .u8 0, .int .u8 0, .int .u8 0, .int .u8 0, .int .u8 0, .int .u8 0, .int .u8 0, .int .u8 0, .int .u8 0, .int .u8 0, .int .u8 0, .int .u8 0, .int .u8 0, .slice none 0 0, .int .i64 0, .slice none 0 0]), srcE sb A10 cp10 r10]))))) rfl (by classical exact List.perm_iff_count.2 (fun z => by simp only [List.count_append, List.count_cons, List.count_nil, List.cons_append, List.nil_append, List.set_cons_zero, List.set_cons_succ] <;> omega)) ?_
  refine RL.appB (Lr := Lm) (xs := ms) (ys := [.slice Al l.length cl2]) (N := (ls ++ [l]).length) rfl rfl sl67 el_sl (by decide) (by decide) Try.underlying67 rfl hrm rfl (List.Perm.refl _) (by simp) rfl (by simp [Value.oneCell']) (by omega) (by simp) ?_
  intro A64 cp64 Lr64 hr64
  refine RL.fieldAddr rfl fd69_3 rfl ?_
  refine RL.stS rfl rfl sc67.size rfl rfl (by rw [clCells_len hid]; decide) ?_
  rw [clCells_setm hid]
  refine RL.perm (L' := Lr64 ++ ((Ls ++ Ll) ++ (Lf ++ [(b3, cel 69 (clCells (r.take 16) (.slice Af fs.length cf) (sl) (.slice A64 (ls ++ [l]).length cp64))), (b2, cel 69 [.int .u8 0, .int .u8 0, .int .u8 0, .int .u8 0, .int .u8 0, .int .u8 0, .int .u8 0, .int .u8 0, .int .u8 0, .int .u8 0, .int .u8 0, .int .u8 0, .int .u8 0, .int .u8 0, .int .u8 0, .int .u8 0, .slice none 0 0, .int .i64 0, .slice none 0 0]), srcE sb A10 cp10 r10, (bb63, cel 78 [.slice Al l.length cl2])]))) rfl (by classical exact List.perm_iff_count.2 (fun z => by simp only [List.count_append, List.count_cons, List.count_nil, List.cons_append, List.nil_append, List.set_cons_zero, List.set_cons_succ] <;> omega)) ?_
  refine RL.nil ?_
  refine X.blk ?_
  refine X.region rfl ?_
  refine RL.add rfl rfl rfl (by omega) ?_
  refine RL.move rfl ?_
  refine RL.nil ?_
  refine X.hyp ⟨rfl, g + 1, by omega, _, (List.Sublist.append (List.Sublist.refl _) (List.Sublist.append (List.Sublist.refl _) (List.Sublist.append (List.Sublist.refl _) (.cons_cons _ (.cons_cons _ (.cons_cons _ (List.nil_sublist _))))))), ls ++ [l], r10, A64, cp64, ms ++ [.slice Al l.length cl2], Lr64, Ls ++ Ll, A10, cp10, by omega, pN_next hpm (by rw [hM1]; exact hpi), hr64, MsO.snoc hmo hrl, nx10, ⟨rfl, rfl, rfl, rfl, rfl, trivial⟩, rfl⟩
 replace hlt2 : ¬ ((_ : Int) < _) := hlt2
 have hgg : g = nm.toNat := by omega
 subst hgg
 refine RL.nil ?_
 refine X.seq ?_
 refine X.cond_f rfl ?_
 refine X.exit rfl ?_
 refine X.seq ?_
 refine X.region rfl ?_
 refine RL.loadOA rfl ag69 rfl (take_all (clCells_len hid)) (clCells_len hid) ?_
 refine RL.stA rfl rfl ag69.size rfl rfl (clCells_len hid) rfl clCells_one ?_
 refine RL.nil ?_
 refine X.ret ?_
 refine retcA1P rfl ag69 rfl (clCells_len hid) ?_
 refine ⟨⟨r.take 16, fs, sl, ls⟩, _, A8, cp8, r8, Lf ++ (Lm ++ Ls), by rw [hC3, hpm]; rfl, rfl, ⟨hid, hfo, Af, cf, Am, cm, ms, Lf, Lm, Ls, rfl, hrf, hrm, hmo, rfl⟩, nx8, Lm ++ (Ls ++ (Lf ++ [srcE sb A8 cp8 r8])), List.Sublist.append (List.Sublist.refl _) (List.Sublist.append (List.Sublist.refl _) (List.Sublist.append (List.Sublist.refl _) (.cons _ (.cons _ (List.Sublist.refl _))))), ?_⟩
 exact (by classical exact List.perm_iff_count.2 (fun z => by simp only [List.count_append, List.count_cons, List.count_nil, List.cons_append, List.nil_append, List.set_cons_zero, List.set_cons_succ] <;> omega))
end Go.Proofs.Ytnebpklmbefmfaa

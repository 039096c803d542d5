/- The reader takes bytes. -/
import Derived.Test.YtdnnnbjmjjdcfaaA1
import Derived.Test.YtdnnnbjmjjdcfaaOwned
set_option linter.unusedVariables false
set_option linter.unusedSimpArgs false
namespace Go.Proofs.Ytdnnnbjmjjdcfaa
open Go.RowKit
attribute [local irreducible] X RL W Ctr
theorem f_stake (r : List Int) (A : Option Addr) (cp sb : Nat) (hcap : r.length ≤ cp) (hlen : r.length ≤ 1000000) (w : World) (n : Nat) (hn : n ≤ r.length) (hown : ∀ p ∈ [srcE sb A cp r], w.heap[p.1]? = some p.2) :
    Ctr Try.prog 50 [.pointer (some ⟨sb, 0, none⟩), .int .i64 n] w [srcE sb A cp r] fun v L => v = .slice A n cp ∧ L = [srcE sb (cutA A cp n) (cp - n) (r.drop n)] := by
 refine Ctr.intro (n := 31) Try.func50 rfl Try.ntmps50 (Nat.le_of_ble_eq_true rfl) hown (by simp [keys]) ?_
 refine X.seq ?_
 refine X.region rfl ?_
 refine RL.assign rfl ?_
 refine RL.nil ?_
 refine X.seq ?_
 refine X.seq ?_
 refine X.region rfl ?_
 refine RL.move rfl ?_
 refine RL.nilCheck rfl rfl ?_
 refine RL.fieldAddr rfl fd92_0 rfl ?_
 refine RL.loadO rfl sc40 rfl rfl ?_
 refine RL.len rfl sl40 rfl ?_
 refine RL.move rfl ?_
 refine RL.cmp_f rfl rfl rfl rfl (by show ¬ ((_ : Int) < _); omega) ?_
 refine RL.nil ?_
 refine X.cond_f rfl ?_
 refine X.skip ?_
 refine X.seq ?_
 refine X.region rfl ?_
 refine RL.move rfl ?_
 refine RL.nilCheck rfl rfl ?_
 refine RL.fieldAddr rfl fd92_0 rfl ?_
 refine RL.loadO rfl sc40 rfl rfl ?_
 refine RL.move rfl ?_
 refine RL.sliceHi (j := n) rfl sl40 rfl rfl rfl (by omega) ?_
 rw [hi_same]
 refine RL.assign rfl ?_
 refine RL.nil ?_
 refine X.seq ?_
 refine X.region rfl ?_
 refine RL.move rfl ?_
 refine RL.move rfl ?_
 refine RL.nilCheck rfl rfl ?_
 refine RL.fieldAddr rfl fd92_0 rfl ?_
 refine RL.loadO rfl sc40 rfl rfl ?_
 refine RL.move rfl ?_
 refine RL.sliceLo (j := n) rfl sl40 rfl rfl rfl (by omega) hcap ?_
 show RL _ _ _ _ _ (updO _ _ (.slice (cutA A cp n) (r.length - n) (cp - n))) _ _
 refine RL.nilCheck rfl rfl ?_
 refine RL.fieldAddr rfl fd92_0 rfl ?_
 refine RL.stS rfl rfl sc40.size rfl rfl (by first | exact Nat.zero_lt_one | decide | simp) ?_
 refine RL.nil ?_
 refine X.seq ?_
 refine X.region rfl ?_
 refine RL.move rfl ?_
 refine RL.assign rfl ?_
 refine RL.nil ?_
 refine X.ret ?_
 refine ret1 rfl ?_
 refine ⟨rfl, ?_⟩
 unfold srcE
 rw [List.length_drop]
 rfl
theorem f_stakeX (r : List Int) (A : Option Addr) (cp sb : Nat) (hcap : r.length ≤ cp) (hlen : r.length ≤ 1000000) (w : World) (n : Nat) (hn : r.length < n) (hn2 : n ≤ 1000) (hown : ∀ p ∈ [srcE sb A cp r], w.heap[p.1]? = some p.2) :
    CtrP Try.prog 50 [.pointer (some ⟨sb, 0, none⟩), .int .i64 n] w [srcE sb A cp r] (fun _ _ => False) True := by
 refine CtrP.intro (n := 31) Try.func50 rfl Try.ntmps50 (Nat.le_of_ble_eq_true rfl) hown (by simp [keys]) ?_
 refine X.seq ?_
 refine X.region rfl ?_
 refine RL.assign rfl ?_
 refine RL.nil ?_
 refine X.seq ?_
 refine X.seq ?_
 refine X.region rfl ?_
 refine RL.move rfl ?_
 refine RL.nilCheck rfl rfl ?_
 refine RL.fieldAddr rfl fd92_0 rfl ?_
 refine RL.loadO rfl sc40 rfl rfl ?_
 refine RL.len rfl sl40 rfl ?_
 refine RL.move rfl ?_
 refine RL.cmp_t rfl rfl rfl rfl (by show ((_ : Int) < _); omega) ?_
 refine RL.nil ?_
 refine X.cond_t rfl ?_
 refine X.region rfl ?_
 refine RL.bldC (vs := []) (cells := []) rfl rfl (fun w => by kernel_rfl) ?_
 refine RL.mkIface rfl rfl (fun w => by kernel_rfl) ?_
 refine RL.panicI rfl rfl rfl ?_
 rw [xit_panic]
 exact pan_end trivial
theorem f_scount (x : Int) (hx : 0 ≤ x ∧ x ≤ 255) (r : List Int) (A : Option Addr) (cp sb : Nat) (hcap : (x :: r).length ≤ cp) (hlen : (x :: r).length ≤ 1000000) (w : World) (hrd : Rd w A (gcells (x :: r))) (hnb : ∀ a, A = some a → a.block ≠ sb) (hown : ∀ p ∈ [srcE sb A cp (x :: r)], w.heap[p.1]? = some p.2) :
    Ctr Try.prog 47 [.pointer (some ⟨sb, 0, none⟩)] w [srcE sb A cp (x :: r)] fun v L => v = .int .i64 x ∧ L = [srcE sb (cutA A cp 1) (cp - 1) r] := by
 obtain ⟨bb, oo, hA0, hc⟩ := hrd
 obtain rfl := hA0 (by simp [gcells])
 have hnb2 : bb ≠ sb := hnb _ rfl
 refine Ctr.intro (n := 8) Try.func47 rfl Try.ntmps47 (Nat.le_of_ble_eq_true rfl) hown (by simp [keys]) ?_
 refine X.seq ?_
 refine X.region rfl ?_
 refine RL.assign rfl ?_
 refine RL.nil ?_
 refine X.seq ?_
 refine X.region rfl ?_
 refine RL.move rfl ?_
 refine RL.fn (Lp := [srcE sb (some ⟨bb, oo, none⟩) cp (x :: r)]) (Lr := []) rfl rfl rfl en50 (List.Perm.refl _) (fun w1 hw1 => f_stake (x :: r) _ cp sb hcap hlen w1 1 (by simp) (fun p hp => hw1.own p (by simpa using hp))) rfl ?_
 rintro _ _ ⟨rfl, rfl⟩
 refine RL.indexAddr rfl sl40 rfl rfl rfl (show (0 : Int) = ((0 : Nat) : Int) from rfl) (by decide) ?_
 refine RL.loadI rfl sc5 rfl (hc 0 (.int .u8 x) rfl) (by simpa [keys] using hnb2) ?_
 refine RL.convE rfl Try.underlying5 Try.underlying3 rfl (wrap_i64 (by omega)) ?_
 refine RL.assign rfl ?_
 refine RL.nil ?_
 refine X.ret ?_
 refine ret1 rfl ?_
 exact ⟨rfl, rfl⟩
theorem f_scountX (r : List Int) (A : Option Addr) (cp sb : Nat) (hcap : r.length ≤ cp) (hlen : r.length ≤ 1000000) (w : World) (h0 : r = []) (hown : ∀ p ∈ [srcE sb A cp r], w.heap[p.1]? = some p.2) :
    CtrP Try.prog 47 [.pointer (some ⟨sb, 0, none⟩)] w [srcE sb A cp r] (fun _ _ => False) True := by
 subst h0
 refine CtrP.intro (n := 8) Try.func47 rfl Try.ntmps47 (Nat.le_of_ble_eq_true rfl) hown (by simp [keys]) ?_
 refine X.seq ?_
 refine X.region rfl ?_
 refine RL.assign rfl ?_
 refine RL.nil ?_
 refine X.seq ?_
 refine X.region rfl ?_
 refine RL.move rfl ?_
 exact RL.fnP (Lp := [srcE sb A cp []]) (Lr := []) rfl rfl rfl en50 (List.Perm.refl _) (fun w1 hw1 => f_stakeX [] A cp sb hcap hlen w1 1 (by decide) (by decide) (fun p hp => hw1.own p (by simpa using hp))) rfl (fun _ => by rw [xit_panic]; exact pan_end trivial) (fun v L h => h.elim)
theorem f_number (r : List Int) (hr : r.length = 4) (hb : Byt r) (A : Option Addr) (c : Nat) (hc4 : 4 ≤ c) (w : World) (hrd : Rd w A (gcells r)) :
    Ctr Try.prog 51 [.slice A 4 c] w [] fun v _ => v = .int .u32 (num32 (r.getD 0 0) (r.getD 1 0) (r.getD 2 0) (r.getD 3 0)) := by
 obtain ⟨bb, oo, hA0, hc⟩ := hrd
 obtain rfl := hA0 (by rw [gcells_len]; omega)
 refine Ctr.intro0 (n := 23) Try.func51 rfl Try.ntmps51 (Nat.le_of_ble_eq_true rfl) ?_
 refine X.seq ?_
 refine X.region rfl ?_
 refine RL.assign rfl ?_
 refine RL.nil ?_
 refine X.seq ?_
 refine X.region rfl ?_
 refine RL.assign rfl ?_
 refine RL.nil ?_
 refine X.seq ?_
 refine X.seq ?_
 refine X.region rfl ?_
 refine RL.move rfl ?_
 refine RL.sliceHi1 (j := 4) rfl sl40 rfl rfl rfl hc4 (by omega) ?_
 refine RL.len rfl sl40 rfl ?_
 refine RL.move rfl ?_
 refine RL.nil ?_
 refine X.block ?_
 refine X.loop (γ := Nat) (fun g ρ L => (g ≤ 4) ∧ Has ρ [(3, .int .u32 (numS r g)), (7, .slice (some ⟨bb, oo, none⟩) 4 c), (8, .int .i64 4), (9, .int .i64 g)] ∧ L = []) (fun g => 4 - g) (0) ⟨_, (by repeat (first | exact List.Sublist.refl _ | exact List.nil_sublist _ | (rw [List.append_nil]; exact List.Sublist.refl _) | exact List.sublist_append_left _ _ | exact (List.sublist_append_left _ _).trans (List.sublist_append_left _ _) | apply List.Sublist.cons_cons | apply List.Sublist.cons | refine List.Sublist.trans ?_ (List.sublist_append_right _ _))), Nat.zero_le _, ⟨rfl, rfl, rfl, rfl, trivial⟩, rfl⟩ ?_
 rintro g _ _ ⟨q1, hρ, rfl⟩
 obtain ⟨base, rfl⟩ := hρ.base
 clear hρ
 refine X.seq ?_
 refine X.region rfl ?_
 refine RL.cmp_s rfl rfl rfl rfl (fun hg => ?_) (fun hg => ?_)
 ·replace hg : (_ : Int) < _ := hg
  obtain ⟨v, hv⟩ : ∃ v, r[g]? = some v := ⟨_, List.getElem?_eq_getElem (by omega)⟩
  have hvd : r.getD g 0 = v := by rw [List.getD_eq_getElem?_getD, hv]; rfl
  obtain ⟨hv0, hv1⟩ := hb v (List.mem_of_getElem? hv)
  obtain ⟨hs0, hs1⟩ := numS_range hb g
  refine RL.nil ?_
  refine X.seq ?_
  refine X.cond_t rfl ?_
  refine X.skip ?_
  refine X.seq ?_
  refine X.block ?_
  refine X.seq ?_
  refine X.region rfl ?_
  refine RL.move rfl ?_
  refine RL.indexAddr rfl sl40 rfl rfl rfl rfl (by omega) ?_
  refine RL.loadI rfl sc5 rfl (by rw [Nat.mul_one]; exact hc g _ (gcells_get hv)) (by simp) ?_
  refine RL.assign rfl ?_
  refine RL.assign rfl ?_
  refine RL.nil ?_
  refine X.region rfl ?_
  refine RL.move rfl ?_
  refine RL.move rfl ?_
  refine RL.convE rfl Try.underlying5 Try.underlying73 rfl (b := v) (by rw [u32_eq]; omega) ?_
  refine RL.move rfl ?_
  refine RL.mul rfl rfl rfl (by omega) ?_
  refine RL.shlN (n := 8 * g) rfl rfl rfl (by omega) (by show 8 * g ≤ 32; omega) ?_
  refine RL.orN rfl rfl rfl (r := numS r (g + 1)) (by simp only [numS]; rw [hvd]; exact or_bytes (by omega) hs0 hs1 hv0 hv1) ?_
  refine RL.assign rfl ?_
  refine RL.nil ?_
  refine X.blk ?_
  refine X.region rfl ?_
  refine RL.add rfl rfl rfl (by omega) ?_
  refine RL.move rfl ?_
  refine RL.nil ?_
  refine X.hyp ⟨rfl, g + 1, by omega, _, (by repeat (first | exact List.Sublist.refl _ | exact List.nil_sublist _ | (rw [List.append_nil]; exact List.Sublist.refl _) | exact List.sublist_append_left _ _ | exact (List.sublist_append_left _ _).trans (List.sublist_append_left _ _) | apply List.Sublist.cons_cons | apply List.Sublist.cons | refine List.Sublist.trans ?_ (List.sublist_append_right _ _))), by omega, ⟨rfl, rfl, rfl, rfl, trivial⟩, rfl⟩
 ·replace hg : ¬ ((_ : Int) < _) := hg
  have hgg : g = 4 := by omega
  subst hgg
  refine RL.nil ?_
  refine X.seq ?_
  refine X.cond_f rfl ?_
  refine X.exit rfl ?_
  refine X.seq ?_
  refine X.region rfl ?_
  refine RL.move rfl ?_
  refine RL.assign rfl ?_
  refine RL.nil ?_
  refine X.ret ?_
  refine ret1 rfl ?_
  show (_ : Value) = _
  rw [numS_four]
theorem f_number4 {r : List Int} (hb : Byt r) (h6 : ¬ r.length < 6) {w0 w1 : World} {S : List Nat} {L : List Ent} {b o c : Nat} (hc : CellsAt w0 b o (gcells r)) (hS : b ∉ S) (hst : St w0 S w1 L) (hc4 : 4 ≤ c) : Ctr Try.prog 51 [.slice (some ⟨b, o + 2, none⟩) 4 c] w1 [] fun v _ => v = .int .u32 (num32 (r.getD 2 0) (r.getD 3 0) (r.getD 4 0) (r.getD 5 0)) := by
  obtain ⟨h1, h2⟩ := take4_d h6
  have hrd : Rd w1 (some ⟨b, o + 2, none⟩) (gcells ((r.drop 2).take 4)) := by
    refine Rd.firstn (r := r.drop 2) ⟨b, o + 2, fun _ => rfl, fun j v hv => ?_⟩ (by rw [List.length_drop]; omega)
    rw [Nat.add_assoc]
    refine hst.cellI (hc _ _ ?_) hS
    simp only [gcells, List.map_drop, List.getElem?_drop] at hv ⊢
    exact hv
  refine (f_number _ h1 ((hb.drop 2).take 4) _ c hc4 w1 hrd).mono fun v L h => ?_
  rw [h, h2 0 (by decide), h2 1 (by decide), h2 2 (by decide), h2 3 (by decide)]
end Go.Proofs.Ytdnnnbjmjjdcfaa

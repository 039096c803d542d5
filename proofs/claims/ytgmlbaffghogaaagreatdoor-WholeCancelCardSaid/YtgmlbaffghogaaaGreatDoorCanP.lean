/- WholeCancel: every run of it, for all arguments. -/
import Derived.Test.YtgmlbaffghogaaaGreatDoorCanR1
import Derived.Test.YtgmlbaffghogaaaGreatDoorCanR2
import Derived.Test.YtgmlbaffghogaaaGreatDoorCanR3
import Derived.Test.YtgmlbaffghogaaaGreatDoorCanR4
import Derived.Test.YtgmlbaffghogaaaGreatDoorCanR5
import Derived.Test.YtgmlbaffghogaaaGreatDoorCanR6
import Derived.Test.YtgmlbaffghogaaaGreatDoorCanR7
import Derived.Test.YtgmlbaffghogaaaGreatDoorCanR8
import Derived.Test.YtgmlbaffghogaaaGreatDoorCanR9
import Derived.Test.YtgmlbaffghogaaaGreatDoorCanW1
import Derived.Test.YtgmlbaffghogaaaGreatDoorCanW2
import Derived.Test.YtgmlbaffghogaaaGreatDoorCanW3
import Derived.Test.YtgmlbaffghogaaaGreatDoorCanW4
import Derived.Test.YtgmlbaffghogaaaGreatDoorCanW5
import Derived.Test.YtgmlbaffghogaaaGreatDoorCanW6
import Derived.Test.YtgmlbaffghogaaaGreatDoorCanW7
import Derived.Test.YtgmlbaffghogaaaGreatDoorCanW8
set_option linter.unusedVariables false
set_option linter.unusedSimpArgs false
set_option maxRecDepth 100000
namespace Go.Proofs.YtgmlbaffghogaaaGreatDoor
open Go Go.RowKit

theorem follows : Tryz.prog.follows .mixedOrders = true := by kernel_rfl
theorem ext : ExtOk Tryz.prog 314 429 := extOk ⟨⟨Tryz.f314, Tryz.func314, by decide +kernel, by kernel_rfl, by kernel_rfl, by kernel_rfl⟩⟩ ⟨⟨Tryz.f429, Tryz.func429, by decide +kernel, by kernel_rfl, by kernel_rfl, by kernel_rfl⟩⟩
theorem snd_of {mo : FuncId → Option (List V → Hp → Nm → Rs)} (hM : MemoOk Tryz.prog mo) (k : Nat) : Snd Tryz.prog (runK Tryz.prog 314 429 mo k) := runK_ok ext hM (fun ih h => drawSnd (opSnd h) follows) k
theorem snd0 : Snd Tryz.prog K0 := snd_of (fun g m h => by cases h) 300
noncomputable def renEs (f : Nm → Option Nm) : List (Nm × O) → Option (List O)
  | [] => some []
  | p :: l => (match renO f p.2, renEs f l with | some o, some r => some (o :: r) | _, _ => none)
theorem renEs_ok {f : Nm → Option Nm} : ∀ {es0 es : List (Nm × O)}, renEs f es0 = some (es.map (·.2)) → ∀ (j : Nat) p p', es0[j]? = some p → es[j]? = some p' → renO f p.2 = some p'.2
  | [], es, h, j, p, p', h1, _ => by simp at h1
  | q :: es0, es, h, j, p, p', h1, h2 => by
    have h' : (match renO f q.2, renEs f es0 with | some o, some r => some (o :: r) | _, _ => none) = some (es.map (·.2)) := h
    split at h'
    · rename_i o r g1 g2
      injection h' with h'
      cases es with
      | nil => simp at h2
      | cons q' es =>
        simp only [List.map_cons] at h'
        injection h' with e1 e2
        cases j with
        | zero => simp at h1 h2; subst h1 h2; rw [g1, e1]
        | succ j => exact renEs_ok (es0 := es0) (es := es) (by rw [g2, e2]) j p p' (by simpa using h1) (by simpa using h2)
    · cases h'
def chainN : List Nm → Nat → Prop
  | [], _ => True
  | x :: l, b => x.val = b ∧ chainN l (b + 1)
theorem chainN_ok : ∀ {l : List Nm} {b : Nat}, chainN l b → ∀ (j : Nat) k, l[j]? = some k → k.val = b + j
  | [], b, h, j, k, hk => by simp at hk
  | x :: l, b, h, 0, k, hk => by simp at hk; subst hk; exact h.1
  | x :: l, b, h, j + 1, k, hk => by have := chainN_ok h.2 j k (by simpa using hk); omega
theorem chainN_cons {x : Nm} {l : List Nm} {b : Nat} (h1 : x.val = b) (h2 : chainN l (b + 1)) : chainN (x :: l) b := ⟨h1, h2⟩
theorem dec_ok {vs : List V} {h : Hp} {nx : Nm} {v : V} {h' : Hp} {nx' : Nm} (hm : decM vs h nx = .F v h' nx') : FOk Tryz.prog 64 vs h nx v h' nx' := by
  unfold decM at hm
  split at hm
  · rename_i n o len c r
    obtain ⟨t, rr, m, ks, g0, hm⟩ := onC_ok hm (fun n => by simp)
    obtain ⟨g1, hm⟩ := cond_ok hm (fun n => by simp)
    simp only [Bool.and_eq_true] at g1
    obtain ⟨a1, a2, a3, a4, a5, a6, a7, a8⟩ := g1
    obtain rfl := Nat.eq_of_beq_eq_true a1
    obtain rfl := Nat.eq_of_beq_eq_true a2
    obtain rfl := Nat.eq_of_beq_eq_true a3
    subst a4
    obtain rfl := Nat.eq_of_beq_eq_true a5
    obtain rfl := Nat.eq_of_beq_eq_true a6
    obtain rfl := Nat.eq_of_beq_eq_true a7
    obtain rfl := beqL_eq a8
    unfold decK at hm
    obtain ⟨x1, b1, hm⟩ := newK_ok hm (fun n => by simp)
    obtain ⟨x2, b2, hm⟩ := newK_ok hm (fun n => by simp)
    obtain ⟨x3, b3, hm⟩ := newK_ok hm (fun n => by simp)
    obtain ⟨x4, b4, hm⟩ := newK_ok hm (fun n => by simp)
    obtain ⟨x5, b5, hm⟩ := newK_ok hm (fun n => by simp)
    obtain ⟨x6, b6, hm⟩ := newK_ok hm (fun n => by simp)
    obtain ⟨x7, b7, hm⟩ := newK_ok hm (fun n => by simp)
    obtain ⟨x8, b8, hm⟩ := newK_ok hm (fun n => by simp)
    obtain ⟨x9, b9, hm⟩ := newK_ok hm (fun n => by simp)
    obtain ⟨x10, b10, hm⟩ := newK_ok hm (fun n => by simp)
    obtain ⟨x11, b11, hm⟩ := newK_ok hm (fun n => by simp)
    obtain ⟨x12, b12, hm⟩ := newK_ok hm (fun n => by simp)
    obtain ⟨x13, b13, hm⟩ := newK_ok hm (fun n => by simp)
    obtain ⟨x14, b14, hm⟩ := newK_ok hm (fun n => by simp)
    injection hm with e1 e2 e3
    subst e1 e2 e3
    obtain ⟨h2, nx2, r1, r2⟩ := chkG_ok run_dec
    refine memo_ren (n0 := m0) (n1 := m1) (oA := formO) (h' := h2) (nx' := nx2) (v0 := decV m152 m17 m98 m109 m151 m35 m46 m57 m68 m85 m96 m127 m138 m149) (es0 := decE m152 m17 m98 m109 m151 m35 m46 m57 m68 m85 m96 m127 m138 m149) snd0 (by kernel_rfl) r1 (r2 _ List.mem_cons_self) (by kernel_rfl) (fun p hp => r2 p (List.mem_cons_of_mem _ hp)) (nmIn_f (by kernel_rfl)) (nmsB_ok (by kernel_rfl)) g0 ?_ (chainN_ok ?_) (by kernel_rfl) ?_ (by kernel_rfl) (renEs_ok (by kernel_rfl))
    · rintro σ v ⟨b, cc, k1, k2⟩
      have : nmEq m0 m0 = true := by kernel_rfl
      exact ⟨b, cc, by show cond (nmEq m0 m0) (σ n) none = _; rw [this]; exact k1, k2⟩
    · show chainN [nx, x1, x2, x3, x4, x5, x6, x7, x8, x9, x10, x11, x12, x13] nx.val
      exact chainN_cons (by omega) (chainN_cons (by omega) (chainN_cons (by omega) (chainN_cons (by omega) (chainN_cons (by omega) (chainN_cons (by omega) (chainN_cons (by omega) (chainN_cons (by omega) (chainN_cons (by omega) (chainN_cons (by omega) (chainN_cons (by omega) (chainN_cons (by omega) (chainN_cons (by omega) (chainN_cons (by omega) (trivial))))))))))))))
    · show _ = nx.val + 14
      omega
  · cases hm
theorem beqF {a b : Nat} (h : Nat.beq a b = true) : a = b := Nat.eq_of_beq_eq_true h
theorem memo1 : MemoOk Tryz.prog mo1 := by
  intro g m hg vs h nx v h' nx' hr
  unfold mo1 at hg
  cases e : Nat.beq g 64 with
  | true => rw [e] at hg; injection hg with hg; subst hg; rw [beqF e]; exact dec_ok hr
  | false => rw [e] at hg; cases hg
theorem snd1 : Snd Tryz.prog K1 := snd_of memo1 300
theorem beg_ok {vs : List V} {h : Hp} {nx : Nm} {v : V} {h' : Hp} {nx' : Nm} (hm : begM vs h nx = .F v h' nx') : FOk Tryz.prog 4 vs h nx v h' nx' := by
  unfold begM at hm
  cases e : covB h (inB2 true) with
  | true => rw [e] at hm; exact exactM_ok snd1 run_begT hm
  | false => rw [e] at hm; exact exactM_ok snd1 run_begF hm
theorem dBody_eq : dBody = .seq (fstC dBody) (.seq (fstC (sndC dBody)) (.block 6 (.loop dLoop))) := by kernel_rfl
theorem drop_run : FOk Tryz.prog 19 [gV] (setAll s1E (emp8 none)) m2003 (.t []) (setAll d0E (emp8 none)) m19258 := by
  have h3 := CdOk.run snd1 follows run_l3
  have h2 := CdOk.rounds snd1 follows run_l2 h3
  have h1 := CdOk.rounds snd1 follows run_l1 h2
  have hR := CdOk.run snd1 follows run_dR
  have hA := CdOk.run snd1 follows run_dA
  have hall := CdOk.seq hA (CdOk.seq hR (CdOk.block1 h1))
  rw [← dBody_eq] at hall
  exact fnCd_ok (fn := Tryz.f19) (x := dBody) Tryz.func19 (by kernel_rfl) (by kernel_rfl) (by decide +kernel) (by decide) (.inl rfl) (by kernel_rfl) hall
theorem drop_ok {vs : List V} {h : Hp} {nx : Nm} {v : V} {h' : Hp} {nx' : Nm} (hm : exactM [gV] m2003 s1E (.t []) m19258 d0E vs h nx = .F v h' nx') : FOk Tryz.prog 19 vs h nx v h' nx' := exactM_of drop_run hm
theorem memo2 : MemoOk Tryz.prog mo2 := by
  intro g m hg vs h nx v h' nx' hr
  unfold mo2 at hg
  cases e : Nat.beq g 64 with
  | true => rw [e] at hg; injection hg with hg; subst hg; rw [beqF e]; exact dec_ok hr
  | false =>
    rw [e] at hg
    cases e2 : Nat.beq g 4 with
    | true => rw [e2] at hg; injection hg with hg; subst hg; rw [beqF e2]; exact beg_ok hr
    | false =>
      rw [e2] at hg
      cases e3 : Nat.beq g 19 with
      | true => rw [e3] at hg; injection hg with hg; subst hg; rw [beqF e3]; exact drop_ok hr
      | false =>
        rw [e3] at hg
        cases e4 : Nat.beq g 20 with
        | true => rw [e4] at hg; injection hg with hg; subst hg; rw [beqF e4]; exact exactM_ok snd1 run_rest hr
        | false => rw [e4] at hg; cases hg
theorem snd2 : Snd Tryz.prog K2 := snd_of memo2 300
theorem wak_ok {vs : List V} {h : Hp} {nx : Nm} {v : V} {h' : Hp} {nx' : Nm} (hm : wakM vs h nx = .F v h' nx') : FOk Tryz.prog 11 vs h nx v h' nx' := by
  unfold wakM at hm
  split at hm
  · injection hm with e1 e2 e3; subst e1 e2 e3
    obtain ⟨h2, nx2, r1, _⟩ := chkG_ok run_wakes
    exact truth_ok snd2 r1 (by kernel_rfl) h nx
  · cases hm
theorem memo3 : MemoOk Tryz.prog mo3 := by
  intro g m hg vs h nx v h' nx' hr
  unfold mo3 at hg
  cases e : Nat.beq g 64 with
  | true => rw [e] at hg; injection hg with hg; subst hg; rw [beqF e]; exact dec_ok hr
  | false =>
    rw [e] at hg
    cases e2 : Nat.beq g 4 with
    | true => rw [e2] at hg; injection hg with hg; subst hg; rw [beqF e2]; exact beg_ok hr
    | false =>
      rw [e2] at hg
      cases e3 : Nat.beq g 11 with
      | true => rw [e3] at hg; injection hg with hg; subst hg; rw [beqF e3]; exact wak_ok hr
      | false => rw [e3] at hg; cases hg
theorem snd3 : Snd Tryz.prog K3 := snd_of memo3 300
/-- The law, of any arguments. -/
theorem w_cancel (many late : Bool) (which : Nat) (w : World) : Ctr Tryz.prog 3 [.bool many, .int .u8 (.ofNat which), .bool late] w [] (fun v _ => v = .bool true) := by
  have key : ∀ (p : Nat), Nat.mod which 2 = p → chkG (.s (.b true)) [] (K3 (.F 3 [.s (.b many), .s (.x (.par .u8 p)), .s (.b late)] (emp8 none) m0)) = true → Ctr Tryz.prog 3 [.bool many, .int .u8 (.ofNat which), .bool late] w [] (fun v _ => v = .bool true) := by
    intro p hp hrun
    obtain ⟨h2, nx2, r1, _⟩ := chkG_ok hrun
    have := snd3.fn 3 _ _ m0 _ h2 nx2 r1 (fun _ => none) w [] [.bool many, .int .u8 (.ofNat which), .bool late] ⟨rfl, ⟨which, hp, rfl⟩, rfl, trivial⟩ ⟨fun _ _ => rfl, fun _ _ _ _ _ _ _ _ _ h _ => (by cases h), fun k o hk => (by rw [get8_emp] at hk; cases hk)⟩ (fun _ h => by cases h) List.nodup_nil
    rcases this with ⟨_, h3⟩ | ⟨x, w', L', h3, _⟩
    · exact h3.mono fun v L ⟨_, _, h4, _⟩ => h4
    · exact absurd (h3.symm.trans (hasB_ok (show hasB Tryz.prog 3 = true by kernel_rfl) _ w)) (by simp)
  have h2 : which % 2 = 0 ∨ which % 2 = 1 := by omega
  rcases h2 with hp | hp
  · cases many <;> cases late
    · exact key 0 hp run_f0f
    · exact key 0 hp run_f0t
    · exact key 0 hp run_t0f
    · exact key 0 hp run_t0t
  · cases many <;> cases late
    · exact key 1 hp run_f1f
    · exact key 1 hp run_f1t
    · exact key 1 hp run_t1f
    · exact key 1 hp run_t1t
end Go.Proofs.YtgmlbaffghogaaaGreatDoor

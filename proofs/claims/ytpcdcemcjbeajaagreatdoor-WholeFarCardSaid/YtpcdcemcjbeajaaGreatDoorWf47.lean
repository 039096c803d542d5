/- WholeFar: WlLc. -/
import Derived.Below
import Derived.ChangeOld
import Derived.LaidMore
import Derived.OpenShut
import Derived.ProofKit
import Derived.ShutString
import Derived.SizedLaws
import Derived.Stop.Joined
import Derived.Test.YtpcdcemcjbeajaaGreatDoorWf37
import Derived.Test.YtpcdcemcjbeajaaGreatDoorWf38
import Derived.Test.YtpcdcemcjbeajaaGreatDoorWf39
import Derived.Test.YtpcdcemcjbeajaaGreatDoorWf40
import Derived.Test.YtpcdcemcjbeajaaGreatDoorWf41
import Derived.WalkKit
set_option linter.unusedVariables false
namespace Go.Proofs.YtpcdcemcjbeajaaGreatDoor.wholeFar
open Go.ChangeShapes Go.WideShapes Go.ChangeAt Go.RowKit
theorem laidOutF : laidOutB Tryz.prog = true := wholeFar.k2
set_option maxRecDepth 100000 in
theorem lifted (os : Os) (started : os.Started) (H : Type) (enc : TypeId × Value → H) :
    ReturnsInHanded {} Tryz.checked os 3 .any (fun w args => (Rows.wholeFarSpec.pre enc Tryz.prog Tryz.f3 [] false w args ∧ laidMetH Tryz.prog laid3 w) ∧ sizedMet enc Tryz.prog Tryz.f3 (OpenSpec.ofChange Rows.wholeFarSpec) false w args)
      (Rows.wholeFarSpec.post enc Tryz.prog Tryz.f3 false true false false) := by
  refine returnsInHanded_of_change_and (C := Tryz.checked) (X := fun w _ => laidMetH Tryz.prog laid3 w) (fun _ _ _ hh h => h.of_heap hh) own started (by kernel_rfl) Tryz.func3
    (ChangeSpec.witness_shaped (enc := enc) (C := Tryz.checked) (os := os) (X := fun w _ => laidMetH Tryz.prog laid3 w) false (World.doorLaid Tryz.prog 400 os) #[.slice none 0 0, .slice none 0 0, .slice none 0 0] 8 rfl (shaped os) (first os H enc).1 (first os H enc).2.1 (first os H enc).2.2 (door_met os _)) ?_
  intro W base args ds gs before hval0 hW _ hsz _ _
  have hval : ∀ (j : Nat) t v, Tryz.f3.params[j]? = some t → args[j]? = some v → Value.okWide Tryz.prog W .any base t v := hval0
  have hW' := hW
  obtain ⟨p, q, hA0, hV, rfl, hfz, hnd⟩ := hW
  have hA : DataW.TrodAll enc Tryz.prog W 0 (fun _ => true) true Tryz.f3.params.toList args.toList ds p := hA0
  rw [Tryz.params3] at hA hval
  obtain ⟨v0, vs0, d0, ds0, p0, q0, hargs, rfl, rfl, h0, r0⟩ := trodAll_cons hA
  obtain ⟨v1, vs1, d1, ds1, p1, q1, rfl, rfl, rfl, h1, r1⟩ := trodAll_cons r0
  obtain ⟨v2, vs2, d2, ds2, p2, q2, rfl, rfl, rfl, h2, r2⟩ := trodAll_cons r1
  obtain ⟨rfl, rfl, rfl⟩ := trodAll_nil r2
  obtain rfl : args = #[v0, v1, v2] := by cases args; simp_all
  obtain ⟨rfl, rfl⟩ := trodVars_none hV
  have k0 := h0
  have lt0 : ∀ x ∈ p0, x.block < W.heap.size := by obtain ⟨m, hm⟩ := k0; exact DataW.trod_lt m _ _ _ hm
  obtain ⟨A0, n0, many, rfl, rd0, sz0⟩ := open_bools (hval 0 22 v0 rfl rfl) h0
  have k1 := h1
  have lt1 : ∀ x ∈ p1, x.block < W.heap.size := by obtain ⟨m, hm⟩ := k1; exact DataW.trod_lt m _ _ _ hm
  obtain ⟨A1, n1, adds, rfl, rd1, ok1⟩ := open_i8s (hval 1 23 v1 rfl rfl) h1
  have k2 := h2
  have lt2 : ∀ x ∈ p2, x.block < W.heap.size := by obtain ⟨m, hm⟩ := k2; exact DataW.trod_lt m _ _ _ hm
  obtain ⟨A2, n2, picks, rfl, rd2⟩ := open_is (hval 2 24 v2 rfl rfl) h2
  clear hA0 hval0
  have hm : many.length ≤ 140737488351232 := by
    rcases sz0 with ⟨_, rfl⟩ | ⟨e1, e2, rfl, hl⟩
    · exact Nat.zero_le _
    · have h8 : (e1.length + e2.length) * Tryz.prog.bytesOf 4 ≤ reachBytes := sized_slice hsz (j := 0) (t := 22) (e := 4) (elems := e1) (spare := e2) rfl rfl Tryz.underlying22
      rw [show Tryz.prog.bytesOf 4 = 1 by kernel_rfl, Nat.mul_one, hl] at h8
      have h9 : reachBytes = 140737488351232 := rfl
      omega
  refine (Ctr.calls (w_wholeFar many adds picks A0 A1 A2 n0 n1 n2 W hm rd0 rd1 rd2 ok1)).mono fun e W' ⟨v, L', he, hst, hR⟩ => ?_
  subst he
  subst hR
  have bel := hst.below
  exact ⟨_, rfl, _, _, _, [], _, [], hW', trodAll_mk1 (shut_bool Tryz.underlying4 _), (trodAll_cons_mk (Below.trod laidOutF (by kernel_rfl) (of_decide_eq_true (by kernel_rfl)) k0 bel lt0) (trodAll_cons_mk (Below.trod laidOutF (by kernel_rfl) (of_decide_eq_true (by kernel_rfl)) k1 bel lt1) (trodAll_cons_mk (Below.trod laidOutF (by kernel_rfl) (of_decide_eq_true (by kernel_rfl)) k2 bel lt2) trodAll_mk0))), rfl, bel.frame _, fun h => by cases h⟩
end Go.Proofs.YtpcdcemcjbeajaaGreatDoor.wholeFar

/- The document's example of a module. -/
import Derived.Test.YtdnnnbjmjjdcfaaDecode
set_option linter.unusedVariables false
namespace Go.Proofs.Ytdnnnbjmjjdcfaa
open Go.RowKit
def zid : List Int := [0, 0, 0, 0, 0, 0, 0, 0, 0, 0, 0, 0, 0, 0, 0, 0]
def smF : List Face := [⟨zid, -1⟩]
def smL : List Ins := [⟨2, 0, 0⟩, ⟨11, 0, 0⟩]
def smC : Cl := ⟨zid, smF, 0, [smL]⟩
def smM : List Cl := [smC]
theorem sm_ok : (mcheckP smM).2 = 0 := by decide +kernel
theorem sm_len : (encP smM).length = 50 := by decide +kernel
theorem sm_byt : Byt (encP smM) := encP_byt (by
  intro c hc
  have hz : Byt zid := by unfold Byt; decide
  simp only [smM, List.mem_singleton] at hc
  subst hc
  exact ⟨hz, fun f hf => by simp only [smC, smF, List.mem_singleton] at hf; subst hf; exact hz⟩)
theorem sm_at : (encP smM)[44]? = some 11 := by decide +kernel
theorem sm_p : pMod (encP smM) = some smM := by decide +kernel
theorem sm_dec : decP (encP smM) = some smM := by decide +kernel
theorem RetQ.perm {c : Cx} {fn : Func} {R : Value → List Ent → Prop} {ρ : Env} {L L' : List Ent} (hs : L'.Perm L) (h : RetQ c fn R .ret ρ [] L') : RetQ c fn R .ret ρ [] L := fun w hw => h w (hw.perm hs)
theorem sm_sz : ∀ c ∈ smM, ClSz c := by
  intro c hc
  simp only [smM, List.mem_singleton] at hc
  subst hc
  exact ⟨by decide, by decide, fun l hl => by simp only [smC, List.mem_singleton] at hl; subst hl; decide⟩
end Go.Proofs.Ytdnnnbjmjjdcfaa

/- The laws' own modules: of one class of a number; classes taken out of modules; modules of one's own in a row. -/
import Derived.Test.YtnebpklmbefmfaaNew
set_option linter.unusedVariables false
set_option linter.unusedSimpArgs false
namespace Go.Proofs.Ytnebpklmbefmfaa
open Go.RowKit
def z15 : List Int := [0, 0, 0, 0, 0, 0, 0, 0, 0, 0, 0, 0, 0, 0, 0]
def smF : List Face := [⟨0 :: z15, -1⟩]
def smL : List Ins := [⟨2, 0, 0⟩, ⟨11, 0, 0⟩]
def oneC (n : Int) : Cl := ⟨n :: z15, smF, 0, [smL]⟩
def oneM (n : Int) : List Cl := [oneC n]
theorem RetQ.perm {c : Cx} {fn : Func} {R : Value → List Ent → Prop} {ρ : Env} {L L' : List Ent} (hs : L'.Perm L) (h : RetQ c fn R .ret ρ [] L') : RetQ c fn R .ret ρ [] L := fun w hw => h w (hw.perm hs)
theorem one_sz (n : Int) : (oneM n).length ≤ 1000 ∧ ∀ c ∈ oneM n, ClSz c := by
  refine ⟨by show 1 ≤ 1000; decide, fun c hc => ?_⟩
  simp only [oneM, List.mem_singleton] at hc
  subst hc
  exact ⟨by show 1 ≤ 1000; decide, by show 1 ≤ 1000; decide, fun l hl => by simp only [oneC, List.mem_singleton] at hl; subst hl; decide⟩
theorem one_b {n : Int} (h : 0 ≤ n ∧ n ≤ 255) : ∀ c ∈ oneM n, ClB c := by
  intro c hc
  have hz : Byt z15 := by unfold Byt; decide
  have h0 : Byt (0 :: z15) := by unfold Byt; decide
  simp only [oneM, List.mem_singleton] at hc
  subst hc
  refine ⟨fun x hx => ?_, fun f hf => by simp only [oneC, smF, List.mem_singleton] at hf; subst hf; exact h0⟩
  rcases List.mem_cons.1 hx with rfl | hx
  · exact h
  · exact hz x hx
theorem one_c (n : Int) : ccheckP (oneC n) = 0 := by
  have : ccheckP (oneC 0) = 0 := by decide +kernel
  exact this
theorem one_ok (n : Int) : (mcheckP (oneM n)).2 = 0 := by
  rw [mcheckP_ok (by simp [oneM])]
  intro j c hj
  obtain ⟨k, hk1, hk2⟩ := mfindP_self hj
  have hc := List.mem_of_getElem? hj
  simp only [oneM, List.mem_singleton] at hc
  subst hc
  have hj0 := (List.getElem?_eq_some_iff.1 hj).1
  refine verC_no (by rw [one_c]; decide) (by rw [hk1]; simp [oneM] at hj0 ⊢; omega)
theorem newP_all {ms : List (List Cl)} {d : Int} (h : newP ms d = 0) : ms.length ≤ 4 ∧ ∀ m ∈ ms, (mcheckP m).2 = 0 := by
  unfold newP at h
  split at h
  · cases h
  split at h
  · cases h
  rename_i h1 h2
  refine ⟨by omega, fun m hm => ?_⟩
  obtain ⟨j, hj⟩ := List.getElem?_of_mem hm
  apply Decidable.byContradiction
  intro hne
  have hlt := (List.getElem?_eq_some_iff.1 hj).1
  have : ∃ e, ((List.range ms.length).findSome? fun i => (ms[i]?).bind (verM ms i)) = some e ∧ e ≠ 0 := by
    cases hf : (List.range ms.length).findSome? fun i => (ms[i]?).bind (verM ms i) with
    | none =>
      rw [List.findSome?_eq_none_iff] at hf
      have := hf j (by simpa using hlt)
      rw [hj] at this
      simp [verM_c hne] at this
    | some e =>
      refine ⟨e, rfl, ?_⟩
      obtain ⟨i, _, hi⟩ := List.exists_of_findSome?_eq_some hf
      cases hmi : ms[i]? with
      | none => rw [hmi] at hi; cases hi
      | some m2 =>
        rw [hmi] at hi
        simp only [Option.bind_some] at hi
        unfold verM at hi
        split at hi
        · rename_i h3; injection hi with hi; rw [← hi]; exact h3
        · split at hi
          · injection hi with hi; rw [← hi]; decide
          · cases hi
  obtain ⟨e, he, hne0⟩ := this
  rw [he] at h
  exact hne0 h
theorem refR_own {w0 w : World} {S : List Nat} {L : List Ent} {xb cb cp n : Nat} {junk : List Value} {delay : Int} {vs : List Value} {ss : List Mv} (hst : St w0 S w L) (hlen : vs.length = ss.length) (hn : n = ss.length) (hs : ∀ p ∈ RefG xb cb cp junk delay vs ss n, p ∈ L) : RefR w xb delay vs ss := by
  subst hn
  refine ⟨hlen, some ⟨cb, 0, none⟩, cp, ?_, cb, 0, fun _ => rfl, fun j v hv => ?_⟩
  · have := hst.cellsO (b := xb) (fr := (0, 0)) (hs _ List.mem_cons_self) 0
    simpa using this
  · have := hst.cellO (b := cb) (fr := (0, 0)) (hs _ (by simp : (cb, cel 58 (rcells vs ss ++ junk)) ∈ _)) (0 + j)
    rw [this, Nat.zero_add, List.getElem?_append_left (List.getElem?_eq_some_iff.1 hv).1]
    exact hv
theorem one_rd {w0 w : World} {S : List Nat} {L : List Ent} {b : Nat} {cl : Cl} {cs : List Value} (hst : St w0 S w L) (hb : (b, cel 69 cs) ∈ L) (hc : ClR w cl cs) : ModR w [cl] (some ⟨b, 0, none⟩) := by
  refine ⟨[cs], rfl, ⟨b, 0, fun _ => rfl, ?_⟩, fun i cl2 hi => ?_⟩
  · have := hst.cellsO (b := b) (fr := (0, 0)) hb 0
    simpa using this
  · match i, hi with
    | 0, hi => obtain rfl := Option.some.inj hi; exact ⟨cs, rfl, hc⟩
def slF (cs : List Value) : Fact := .prd (fun v L => ∃ b, v = .slice (some ⟨b, 0, none⟩) 1 1 ∧ (b, cel 69 cs) ∈ L) (fun _ _ _ hs h => let ⟨b, e, m⟩ := h; ⟨b, e, hs _ m⟩)
def mdF (cs : List Value) : Fact := .prd (fun v L => ∃ b, v = .agg #[.slice (some ⟨b, 0, none⟩) 1 1] ∧ (b, cel 69 cs) ∈ L) (fun _ _ _ hs h => let ⟨b, e, m⟩ := h; ⟨b, e, hs _ m⟩)
/-! classes -/
def getC (ms : List (List Cl)) (i k : Int) : Option Cl := if i < 0 then none else (ms[i.toNat]?).bind fun m => if k < 0 then none else m[k.toNat]?
theorem getC_some {ms : List (List Cl)} {i k : Int} {cl : Cl} (h : getC ms i k = some cl) : ∃ (j q : Nat) (m : List Cl), i = (j : Int) ∧ k = (q : Int) ∧ ms[j]? = some m ∧ m[q]? = some cl := by
  unfold getC at h
  split at h
  · cases h
  · cases hm : ms[i.toNat]? with
    | none => rw [hm] at h; cases h
    | some m =>
      rw [hm] at h
      simp only [Option.bind_some] at h
      split at h
      · cases h
      · exact ⟨i.toNat, k.toNat, m, by omega, by omega, hm, h⟩
theorem getC_at {ms : List (List Cl)} {i k : Nat} {m : List Cl} (h : ms[i]? = some m) : getC ms i k = m[k]? := by
  unfold getC
  rw [if_neg (by omega), Int.toNat_natCast, h]
  simp only [Option.bind_some, Int.toNat_natCast]
  rw [if_neg (by omega)]
theorem getC_i {ms : List (List Cl)} {i k : Int} (h : i < 0 ∨ (ms.length : Int) ≤ i) : getC ms i k = none := by
  unfold getC
  split
  · rfl
  · rw [List.getElem?_eq_none (by omega)]; rfl
theorem getC_k {ms : List (List Cl)} {i k : Int} {m : List Cl} (h : ms[i.toNat]? = some m) (hk : k < 0 ∨ (m.length : Int) ≤ k) : getC ms i k = none := by
  unfold getC
  split
  · rfl
  · rw [h]
    simp only [Option.bind_some]
    split
    · rfl
    · rw [List.getElem?_eq_none (by omega)]
theorem ClsO.get {m : List Cl} {css : List (List Value)} {L : List Ent} (h : ClsO m css L) : ∀ {k : Nat} {cl : Cl}, m[k]? = some cl → ∃ cs Lc, css[k]? = some cs ∧ ClO cl cs Lc ∧ Lc.Sublist L := by
  induction h with
  | nil => intro k cl hk; simp at hk
  | snoc h hr ih =>
    rename_i m css L c cs Lc
    intro k cl hk
    rcases Nat.lt_or_ge k m.length with hlt | hge
    · rw [List.getElem?_append_left hlt] at hk
      obtain ⟨cs2, Lc2, h1, h2, h3⟩ := ih hk
      exact ⟨cs2, Lc2, by rw [List.getElem?_append_left (by rw [h.len]; exact hlt)]; exact h1, h2, h3.trans (List.sublist_append_left _ _)⟩
    · rw [List.getElem?_append_right hge] at hk
      have h4 := (List.getElem?_eq_some_iff.1 hk).1
      simp at h4
      obtain rfl : k = m.length := by omega
      simp at hk
      subst hk
      exact ⟨cs, Lc, by rw [List.getElem?_append_right (by rw [h.len]; omega), h.len]; simp, hr, List.sublist_append_right _ _⟩
theorem ClO.len {cl : Cl} {cs : List Value} {L : List Ent} (h : ClO cl cs L) : cs.length = 19 := by
  obtain ⟨h1, _, _, _, _, _, _, _, _, _, rfl, _⟩ := h
  exact clCells_len h1
theorem ClO.one {cl : Cl} {cs : List Value} {L : List Ent} (h : ClO cl cs L) : ∀ u ∈ cs, u.oneCell' = true := by
  obtain ⟨h1, _, _, _, _, _, _, _, _, _, rfl, _⟩ := h
  exact clCells_one
theorem ClsO.all {m : List Cl} {css : List (List Value)} {L : List Ent} (h : ClsO m css L) : ∀ cs ∈ css, cs.length = 19 := by
  induction h with
  | nil => intro cs hcs; cases hcs
  | snoc h hr ih =>
    intro cs hcs
    rcases List.mem_append.1 hcs with hcs | hcs
    · exact ih cs hcs
    · rw [List.mem_singleton] at hcs; subst hcs; exact hr.len
theorem flat_at19 : ∀ {css : List (List Value)} {k : Nat} {cs junk : List Value}, (∀ cs ∈ css, cs.length = 19) → css[k]? = some cs → ((css.flatten ++ junk).drop (k * 19)).take 19 = cs
  | c :: css, 0, cs, junk, h, hk => by
    simp at hk; subst hk
    have := h c (by simp)
    simp [List.take_append_of_le_length, this, List.take_of_length_le]
  | c :: css, k + 1, cs, junk, h, hk => by
    have h1 := h c (by simp)
    have := flat_at19 (css := css) (k := k) (junk := junk) (fun cs hcs => h cs (by simp [hcs])) (by simpa using hk)
    rw [List.flatten_cons, List.append_assoc, show (k + 1) * 19 = 19 + k * 19 from by omega, ← List.drop_drop, List.drop_append_of_le_length (by omega), List.drop_of_length_le (l := c) (by omega), List.nil_append]
    exact this
/-- Modules of one's own, in a row. -/
inductive ModsO : List (List Cl) → List Value → List Ent → Prop
  | nil : ModsO [] [] []
  | snoc {ms : List (List Cl)} {vs : List Value} {L : List Ent} {m : List Cl} {A : Option Addr} {cp : Nat} {Lm : List Ent} (h : ModsO ms vs L) (hm : ModO m A cp Lm) : ModsO (ms ++ [m]) (vs ++ [.slice A m.length cp]) (L ++ Lm)
theorem ModsO.len {ms : List (List Cl)} {vs : List Value} {L : List Ent} (h : ModsO ms vs L) : vs.length = ms.length := by
  induction h with
  | nil => rfl
  | snoc h hm ih => simp [ih]
theorem ModsO.reads {w0 w : World} {S : List Nat} {L' : List Ent} (hst : St w0 S w L') {ms : List (List Cl)} {vs : List Value} {L : List Ent} (h : ModsO ms vs L) : (∀ p ∈ L, p ∈ L') → StaV w vs ms := by
  induction h with
  | nil => intro _; exact ⟨rfl, fun i m hm => by simp at hm⟩
  | snoc h hm ih =>
    rename_i ms vs L m A cp Lm
    intro hs
    have h1 := ih (fun p hp => hs p (List.mem_append_left _ hp))
    refine ⟨by simp [h.len], fun i m2 hm2 => ?_⟩
    rcases Nat.lt_or_ge i ms.length with hlt | hge
    · rw [List.getElem?_append_left hlt] at hm2
      rw [List.getElem?_append_left (by rw [h.len]; exact hlt)]
      exact h1.get i m2 hm2
    · rw [List.getElem?_append_right hge] at hm2
      have h4 := (List.getElem?_eq_some_iff.1 hm2).1
      simp at h4
      obtain rfl : i = ms.length := by omega
      rw [List.getElem?_append_right (by rw [h.len]; omega), h.len]
      simp at hm2 ⊢
      subst hm2
      exact ⟨A, ⟨rfl, rfl⟩, hm.reads hst (fun p hp => hs p (List.mem_append_right _ hp))⟩
theorem ModsO.rd {w0 w : World} {S : List Nat} {L' : List Ent} (hst : St w0 S w L') {ms : List (List Cl)} {vs : List Value} {L Lv : List Ent} {A : Option Addr} {n cp : Nat} (h : ModsO ms vs L) (hr : Row 30 1 (.slice A n cp) vs Lv) (h1 : ∀ p ∈ L, p ∈ L') (h2 : ∀ p ∈ Lv, p ∈ L') : ModsR w ms A := ⟨vs, row_rd hr hst h2, h.reads hst h1⟩
end Go.Proofs.Ytnebpklmbefmfaa

/- The laws on rows of instructions, in plain Lean. -/
import Derived.Test.YtnebpklmbefmfaaCode
set_option linter.unusedVariables false
set_option linter.unusedSimpArgs false
namespace Go.Proofs.Ytnebpklmbefmfaa
open Go.RowKit
structure Valid (l : List Ins) (s : Int) : Prop where
  len : ¬ (l.length < 1 ∨ 32 < l.length)
  all : (hts l s l.length).length = l.length
theorem valid_iff {l : List Ins} {s : Int} : (heightP l s).2.2 = 0 ↔ Valid l s := by
  by_cases hl : l.length < 1 ∨ 32 < l.length
  · rw [heightP_len hl]
    exact ⟨fun h => by simp at h, fun h => absurd hl h.len⟩
  · by_cases ha : (hts l s l.length).length = l.length
    · rw [heightP_ok hl ha]; exact ⟨fun _ => ⟨hl, ha⟩, fun _ => rfl⟩
    · refine ⟨fun h => ?_, fun h => absurd h.all ha⟩
      exfalso
      unfold heightP at h
      rw [if_neg hl, if_neg ha] at h
      cases hs : stepP l s (hts l s l.length) with
      | some e => rw [hs] at h; have := stepP_ne hs; simp only at h; omega
      | none =>
        -- the walk stopped where nothing is wrong: not so
        have hle := hts_le l s l.length
        have hg : (hts l s (hts l s l.length).length).length = (hts l s l.length).length := by
          rcases Nat.lt_or_ge (hts l s (hts l s l.length).length).length (hts l s l.length).length with h1 | h1
          · have := hts_stuck h1 l.length hle
            rw [← this] at h1; omega
          · have := hts_le l s (hts l s l.length).length; omega
        have he : hts l s (hts l s l.length).length = hts l s l.length := by
          obtain ⟨r, hr⟩ := hts_pre (l := l) (s := s) (n := (hts l s l.length).length) (m := l.length) hle
          have h2 := congrArg List.length hr
          rw [List.length_append, hg] at h2
          have : r = [] := List.eq_nil_of_length_eq_zero (by omega)
          rw [this, List.append_nil] at hr
          exact hr.symm
        have hn := hts_next hg (by rw [he]; exact hs)
        obtain ⟨r, hr⟩ := hts_pre (l := l) (s := s) (n := (hts l s l.length).length + 1) (m := l.length) (by omega)
        have h2 := congrArg List.length hr
        rw [List.length_append, hn, List.length_append, hg] at h2
        simp at h2; omega
theorem check_valid {l : List Ins} {s : Int} : (checkP l s).2.2 = 0 ↔ Valid l s := by
  rw [← valid_iff]
  by_cases h : (heightP l s).2.2 ≠ 0
  · rw [checkP_err h]
  · rw [checkP_ok h]; exact ⟨fun _ => Decidable.not_not.1 h, fun _ => rfl⟩
theorem Valid.check {l : List Ins} {s : Int} (h : Valid l s) : checkP l s = (mostP l (hts l s l.length), 0, 0) := by
  have h0 := valid_iff.2 h
  rw [checkP_ok (fun hn => hn h0), heightP_ok h.len h.all]
theorem check_invalid {l : List Ins} {s : Int} (h : ¬ Valid l s) : (checkP l s).2.2 ≠ 0 := fun h0 => h (check_valid.1 h0)
/-- Each instruction of a valid row. -/
theorem Valid.at {l : List Ins} {s : Int} (h : Valid l s) {k : Nat} (hk : k < l.length) : ∃ x hv, l[k]? = some x ∧ (hts l s l.length)[k]? = some hv ∧ hv = markN l (hts l s l.length) k k - 1 ∧ okP x s = true ∧ takeP x.op ≤ hv ∧ 0 ≤ hv ∧ (x.op = 11 → hv = 1) ∧ leftP x hv ≤ 8 ∧ (x.op ≠ 11 → k + 1 < l.length) ∧ (x.op = 7 → x.a < (l.length : Int) - k - 1) := by
  have hlt : k < (hts l s l.length).length := by rw [h.all]; exact hk
  have hg := List.getElem?_eq_getElem hlt
  obtain ⟨x, h1, h2, h3⟩ := hts_fine l.length k _ hg
  obtain ⟨h4, h5, h6, h7, h8, h9, h10⟩ := wrongAt_none h2
  rw [Int.add_sub_cancel] at h6 h7 h8
  exact ⟨x, _, h1, hg, h3, h4, h6, by omega, h7, h8, fun h => by have := h9 h; omega, h10⟩
theorem okP_more {x : Ins} {s m : Int} (hm : 0 ≤ m) (h : okP x s = true) : okP x (s + m) = true := by
  unfold okP at h ⊢
  split
  · rename_i h1; rw [if_pos h1] at h; exact h
  · rename_i h1; rw [if_neg h1] at h
    split
    · rename_i h2; rw [if_pos h2] at h; exact h
    · rename_i h2; rw [if_neg h2] at h
      split
      · rename_i h3; rw [if_pos h3] at h
        exact decide_eq_true (by have := of_decide_eq_true h; omega)
      · rename_i h3; rw [if_neg h3] at h
        split
        · rename_i h4; rw [if_pos h4] at h
          exact decide_eq_true (by have := of_decide_eq_true h; omega)
        · rename_i h4; rw [if_neg h4] at h; exact h
theorem Valid.more {l : List Ins} {s m : Int} (hm : 0 ≤ m) (h : Valid l s) : checkP l (s + m) = checkP l s := by
  have key : ∀ n, n ≤ l.length → hts l (s + m) n = hts l s n := by
    intro n
    induction n with
    | zero => intro _; rfl
    | succ n ih =>
      intro hn
      have e := ih (by omega)
      have hl : (hts l s n).length = n := hts_len_mono h.all (by omega)
      have hs := hts_none h.all (show n < l.length by omega)
      obtain ⟨x, hx⟩ : ∃ x, l[n]? = some x := ⟨_, List.getElem?_eq_getElem (by omega)⟩
      have hs2 : stepP l (s + m) (hts l (s + m) n) = none := by
        rw [e, stepP_at hl hx]
        rw [stepP_at hl hx] at hs
        obtain ⟨h4, h5, h6, h7, h8, h9, h10⟩ := wrongAt_none hs
        exact wrong0 (okP_more hm h4) (by omega) (by omega) (fun hh => by
          have := h9 hh.1
          rcases hh.2 with h1 | ⟨h1, h2⟩
          · omega
          · have := h10 h1; omega)
      rw [hts_next hl hs, hts_next (by rw [e]; exact hl) hs2, e]
  have hv : Valid l (s + m) := ⟨h.len, by rw [key _ (Nat.le_refl _)]; exact h.all⟩
  rw [hv.check, h.check, key _ (Nat.le_refl _)]
/-- A mark comes from somewhere. -/
theorem markN_from {l : List Ins} {H : List Int} {t : Nat} (ht : t ≠ 0) : ∀ n, markN l H n t ≠ 0 → ∃ k x, k < n ∧ l[k]? = some x ∧ goesP x k t = true
  | 0, h => by simp only [markN] at h; rw [if_neg ht] at h; exact absurd rfl h
  | n + 1, h => by
    simp only [markN] at h
    cases hx : l[n]? with
    | none => rw [hx] at h; obtain ⟨k, x, h1, h2⟩ := markN_from ht n h; exact ⟨k, x, by omega, h2⟩
    | some x =>
      rw [hx] at h
      cases hh : H[n]? with
      | none => rw [hh] at h; obtain ⟨k, x, h1, h2⟩ := markN_from ht n h; exact ⟨k, x, by omega, h2⟩
      | some hv =>
        rw [hh] at h
        simp only [] at h
        by_cases hgo : goesP x n t = true
        · exact ⟨n, x, by omega, hx, hgo⟩
        · rw [if_neg hgo] at h
          obtain ⟨k, x, h1, h2⟩ := markN_from ht n h
          exact ⟨k, x, by omega, h2⟩
theorem Valid.short {l : List Ins} {s : Int} (h : Valid l s) : ¬ Valid (l.take (l.length - 1)) s := by
  intro h2
  have hlen : (l.take (l.length - 1)).length = l.length - 1 := by rw [List.length_take]; omega
  have h1 := h2.len
  rw [hlen] at h1
  obtain ⟨x, hv, hx, hg, hm, _, _, h0, _⟩ := h.at (k := l.length - 1) (by omega)
  obtain ⟨k, y, hk, hy, hgo⟩ := markN_from (l := l) (H := hts l s l.length) (t := l.length - 1) (by omega) (l.length - 1) (by omega)
  obtain ⟨y2, hv2, hy2, _, _, _, _, _, _, _, h3, h4⟩ := h2.at (k := k) (by omega)
  rw [List.getElem?_take, if_pos hk, hy] at hy2
  obtain rfl := Option.some.inj hy2
  rw [hlen] at h3 h4
  unfold goesP at hgo
  obtain ⟨g1, g2⟩ := of_decide_eq_true hgo
  have := h3 g1
  rcases g2 with g2 | ⟨g2, g3⟩
  · omega
  · have := h4 g2; omega
theorem Valid.no_end {l : List Ins} {s : Int} (h : Valid l s) {k : Nat} {x : Ins} (hx : l[k]? = some x) : goesP x k l.length = false := by
  have hk := (List.getElem?_eq_some_iff.1 hx).1
  obtain ⟨y, hv, hy, _, _, _, _, _, _, _, h3, h4⟩ := h.at hk
  rw [hx] at hy
  obtain rfl := Option.some.inj hy
  cases hgo : goesP x k l.length with
  | false => rfl
  | true =>
    unfold goesP at hgo
    obtain ⟨g1, g2⟩ := of_decide_eq_true hgo
    have := h3 g1
    rcases g2 with g2 | ⟨g2, g3⟩
    · omega
    · have := h4 g2; omega
theorem Valid.longer {l : List Ins} {s : Int} (h : Valid l s) (hn : l.length ≠ 32) : checkP (l ++ [⟨11, 0, 0⟩]) s = (0, (l.length : Int), 5) := by
  have hlen : (l ++ [(⟨11, 0, 0⟩ : Ins)]).length = l.length + 1 := by simp
  have hl := h.len
  have hmk : ∀ (H : List Int) n t, n ≤ l.length → markN (l ++ [(⟨11, 0, 0⟩ : Ins)]) H n t = markN l H n t := by
    intro H n t
    induction n with
    | zero => intro _; rfl
    | succ n ih =>
      intro hn2
      simp only [markN]
      rw [List.getElem?_append_left (by omega), ih (by omega)]
  have key : ∀ n, n ≤ l.length → hts (l ++ [(⟨11, 0, 0⟩ : Ins)]) s n = hts l s n := by
    intro n
    induction n with
    | zero => intro _; rfl
    | succ n ih =>
      intro hn2
      have e := ih (by omega)
      have hll : (hts l s n).length = n := hts_len_mono h.all (by omega)
      have hs := hts_none h.all (show n < l.length by omega)
      obtain ⟨x, hx⟩ : ∃ x, l[n]? = some x := ⟨_, List.getElem?_eq_getElem (by omega)⟩
      have hx2 : (l ++ [(⟨11, 0, 0⟩ : Ins)])[n]? = some x := by rw [List.getElem?_append_left (by omega)]; exact hx
      have hs2 : stepP (l ++ [(⟨11, 0, 0⟩ : Ins)]) s (hts (l ++ [(⟨11, 0, 0⟩ : Ins)]) s n) = none := by
        rw [e, stepP_at hll hx2, hmk _ _ _ (by omega)]
        rw [stepP_at hll hx] at hs
        obtain ⟨h4, h5, h6, h7, h8, h9, h10⟩ := wrongAt_none hs
        refine wrong0 h4 (by omega) (by omega) (fun hh => ?_)
        rw [hlen] at hh
        have := h9 hh.1
        rcases hh.2 with h1 | ⟨h1, h2⟩
        · omega
        · have := h10 h1; omega
      rw [hts_next hll hs, hts_next (by rw [e]; exact hll) hs2, e, hmk _ _ _ (by omega)]
  have e := key l.length (Nat.le_refl _)
  have hg : (hts (l ++ [(⟨11, 0, 0⟩ : Ins)]) s l.length).length = l.length := by rw [e]; exact h.all
  have hm0 : markN (l ++ [(⟨11, 0, 0⟩ : Ins)]) (hts (l ++ [(⟨11, 0, 0⟩ : Ins)]) s l.length) l.length l.length = 0 := by
    rw [hmk _ _ _ (Nat.le_refl _)]
    apply Decidable.byContradiction
    intro hne
    obtain ⟨k, x, _, hx, hgo⟩ := markN_from (by omega) l.length hne
    rw [h.no_end hx] at hgo; cases hgo
  have hx : (l ++ [(⟨11, 0, 0⟩ : Ins)])[l.length]? = some ⟨11, 0, 0⟩ := by rw [List.getElem?_append_right (Nat.le_refl _)]; simp
  have hw := stepP_of hg hx (wrong5 (.inr (.inl (by rw [hm0]; decide))))
  have hp := heightP_wrong (l := l ++ [(⟨11, 0, 0⟩ : Ins)]) (s := s) (by rw [hlen]; omega) hg (by rw [hlen]; omega) hw
  rw [checkP_err (by rw [hp]; simp), hp]
/-! Going through a valid row. -/
theorem left_cases (x : Ins) (n : Int) : (x.op = 1 ∨ x.op = 2 ∨ x.op = 3 → leftP x n = n + 1) ∧ (x.op = 4 ∨ x.op = 5 ∨ x.op = 7 → leftP x n = n - 1) ∧ (x.op = 6 ∨ x.op = 8 ∨ x.op = 9 ∨ x.op = 10 → leftP x n = n) := by
  unfold leftP takeP layP
  refine ⟨fun h => ?_, fun h => ?_, fun h => ?_⟩
  · rw [if_neg (by omega), if_neg (by omega), if_pos (by omega)]; omega
  · by_cases h5 : x.op = 5
    · rw [if_pos h5, if_pos (by omega)]; omega
    · rw [if_neg h5, if_pos (by omega), if_neg (by omega)]; omega
  · rcases h with h | h | h | h
    · rw [if_neg (by omega), if_pos (by omega), if_pos (by omega)]; omega
    · rw [if_neg (by omega), if_pos (by omega), if_pos (by omega)]; omega
    · rw [if_neg (by omega), if_neg (by omega), if_neg (by omega)]; omega
    · rw [if_neg (by omega), if_neg (by omega), if_neg (by omega)]; omega
theorem ok_op {x : Ins} {s : Int} (h : okP x s = true) : 1 ≤ x.op ∧ x.op ≤ 11 := by
  unfold okP at h
  split at h
  · omega
  · split at h
    · omega
    · split at h
      · omega
      · split at h
        · omega
        · split at h
          · omega
          · cases h
theorem mark_goes {l : List Ins} {s : Int} {m k t : Nat} {x : Ins} {hv : Int} (hx : l[k]? = some x) (hh : (hts l s m)[k]? = some hv) (hgo : goesP x k t = true) : ∀ n, k < n → markN l (hts l s m) n t = -1 ∨ markN l (hts l s m) n t = leftP x hv + 1 := by
  intro n
  induction n with
  | zero => intro h; omega
  | succ n ih =>
    intro hn
    rcases Nat.lt_succ_iff_lt_or_eq.1 hn with hlt | rfl
    · have h1 := ih hlt
      have h0 := left_range hh hx
      simp only [markN]
      cases hy : l[n]? with
      | none => exact h1
      | some y =>
        cases hz : (hts l s m)[n]? with
        | none => exact h1
        | some z =>
          simp only []
          have h2 := left_range hz hy
          split
          · unfold mk; split <;> omega
          · exact h1
    · rw [markN_step hx hh, if_pos hgo]
      unfold mk; split
      · exact .inl rfl
      · exact .inr rfl
theorem Valid.goes {l : List Ins} {s : Int} (h : Valid l s) {k t : Nat} {x : Ins} {hv : Int} (hx : l[k]? = some x) (hh : (hts l s l.length)[k]? = some hv) (hgo : goesP x k t = true) (hk : k < t) (ht : t < l.length) : (hts l s l.length)[t]? = some (leftP x hv) := by
  obtain ⟨y, z, hy, hz, hm, _, _, h0, _⟩ := h.at ht
  rw [hz]
  rcases mark_goes hx hh hgo t hk with h1 | h1
  · omega
  · congr 1; omega
theorem mostN_ge {l : List Ins} {H : List Int} {k : Nat} {x : Ins} {hv : Int} (hx : l[k]? = some x) (hh : H[k]? = some hv) : ∀ n, k < n → leftP x hv ≤ mostN l H n := by
  intro n
  induction n with
  | zero => intro h; omega
  | succ n ih =>
    intro hn
    rcases Nat.lt_succ_iff_lt_or_eq.1 hn with hlt | rfl
    · have := ih hlt
      simp only [mostN]
      cases l[n]? with
      | none => exact this
      | some y =>
        cases H[n]? with
        | none => exact this
        | some z => simp only []; omega
    · rw [mostN_step hx hh]; omega
theorem mostN_le {l : List Ins} {s : Int} {m : Nat} : ∀ n, mostN l (hts l s m) n ≤ 8
  | 0 => by simp [mostN]
  | n + 1 => by
    have ih := mostN_le (l := l) (s := s) (m := m) n
    simp only [mostN]
    cases hy : l[n]? with
    | none => exact ih
    | some y =>
      cases hz : (hts l s m)[n]? with
      | none => exact ih
      | some z =>
        have := left_range hz hy
        simp only []; omega
theorem Valid.most {l : List Ins} {s : Int} (h : Valid l s) : (checkP l s).1 ≤ 8 ∧ ∀ (k : Nat) x hv, l[k]? = some x → (hts l s l.length)[k]? = some hv → leftP x hv ≤ (checkP l s).1 := by
  rw [h.check]
  refine ⟨mostN_le _, fun k x hv hx hh => mostN_ge hx hh _ (by have := (List.getElem?_eq_some_iff.1 hh).1; exact this)⟩
theorem Valid.start {l : List Ins} {s : Int} (h : Valid l s) : (hts l s l.length)[0]? = some 0 := by
  have hl := h.len
  obtain ⟨x, hv, hx, hg, hm, _⟩ := h.at (k := 0) (by omega)
  rw [hg, hm]; rfl
theorem goes_next {x : Ins} {k : Nat} (h : x.op ≠ 11) : goesP x k (k + 1) = true := decide_eq_true ⟨h, .inl rfl⟩
theorem goes_skip {x : Ins} {k : Nat} (h : x.op = 7) (ha : 1 ≤ x.a) : goesP x k (k + x.a.toNat + 1) = true := decide_eq_true ⟨by omega, .inr ⟨h, by omega⟩⟩
section
variable {c : Cx} {Qp : Po} {K : Ko} {ρ : Env} {ds : Ds} {L : List Ent} {ol rest : List Oper} {d : Option Nat} {ty : TypeId} {pos : String} {af : Array Edge} {g : Option (Nat × Bool)} {t t' : TypeId} {x y : Operand} {k : IntKind} {a b : Int}
/-- '&' of numbers: some number. -/
theorem RL.andE (hw : wantE c.n ol ρ ⟨d, .binOp .and t x y t', ty, pos, af, g⟩ = true) (hx : evE c.n ρ x = .int k a) (hy : evE c.n ρ y = .int k b) (h : ∀ r, RL c ol rest K Qp (updO ρ d (.int k r)) ds L) : RL c ol (⟨d, .binOp .and t x y t', ty, pos, af, g⟩ :: rest) K Qp ρ ds L :=
  RL.binI (v := .int k (k.wrap ((BitVec.ofInt k.bits a &&& BitVec.ofInt k.bits b).toNat))) hw hx hy (fun w => by simp [binOp, Op.intBits]) (h _)
/-- '>>' of numbers: some number. -/
theorem RL.shrE (hw : wantE c.n ol ρ ⟨d, .binOp .shr t x y t', ty, pos, af, g⟩ = true) (hx : evE c.n ρ x = .int k a) (hy : evE c.n ρ y = .int k b) (hb : ¬ b < 0) (h : ∀ r, RL c ol rest K Qp (updO ρ d (.int k r)) ds L) : RL c ol (⟨d, .binOp .shr t x y t', ty, pos, af, g⟩ :: rest) K Qp ρ ds L :=
  RL.binI (v := .int k (a.fdiv (2 ^ (min b.toNat k.bits)))) hw hx hy (fun w => by simp [binOp, Op.shift, hb]) (h _)
end
/-! The heights, told one by one. -/
def pr (v : Vis) : Int × Int := (v.1, v.2.1)
def told (l : List Ins) : List (Int × Int) := (visP l 8).map pr
theorem visN_told {l : List Ins} {H : List Int} : ∀ n, n ≤ H.length → n ≤ l.length → (visN l H n).map pr = (List.range n).map (fun (i : Nat) => ((i : Int), H.getD i 0))
  | 0, _, _ => rfl
  | n + 1, h1, h2 => by
    obtain ⟨x, hx⟩ : ∃ x, l[n]? = some x := ⟨_, List.getElem?_eq_getElem (by omega)⟩
    obtain ⟨hv, hh⟩ : ∃ hv, H[n]? = some hv := ⟨_, List.getElem?_eq_getElem (by omega)⟩
    simp only [visN]
    rw [hx, hh]
    simp only []
    rw [List.map_append, visN_told n (by omega) (by omega), List.range_succ, List.map_append]
    simp [pr, hh]
theorem height_len (l : List Ins) (s : Int) : (heightP l s).1.length ≤ l.length := heightP_short (l := l) (s := s) (a := (heightP l s).2.1) (e := (heightP l s).2.2) rfl
theorem told_eq (l : List Ins) : told l = (List.range (heightP l 8).1.length).map (fun (i : Nat) => ((i : Int), (heightP l 8).1.getD i 0)) := visN_told _ (Nat.le_refl _) (height_len l 8)
theorem told_snd (l : List Ins) : (told l).map (·.2) = (heightP l 8).1 := by
  rw [told_eq, List.map_map]
  apply List.ext_getElem?
  intro i
  simp only [List.getElem?_map, List.getElem?_range, Function.comp]
  by_cases h : i < (heightP l 8).1.length
  · rw [List.getElem?_range h]; simp [h]
  · rw [List.getElem?_eq_none (by simpa using h), List.getElem?_eq_none (by omega)]; rfl
theorem told_fst {l : List Ins} {i : Nat} {a : Int} (h : ((told l).map (·.1))[i]? = some a) : a = i := by
  rw [told_eq, List.map_map] at h
  simp only [List.getElem?_map] at h
  by_cases hi : i < (heightP l 8).1.length
  · rw [List.getElem?_range hi] at h; simp at h; exact h.symm
  · rw [List.getElem?_eq_none (by simpa using hi)] at h; simp at h
theorem told_len (l : List Ins) : (told l).length = (heightP l 8).1.length := by rw [told_eq]; simp
theorem told_le (l : List Ins) : (told l).length ≤ l.length := by rw [told_len]; exact height_len l 8
/-- What 'heights' holds so far; how its loop is left. -/
def hgI (k6 k7 m : Nat) (pre : List (Int × Int)) (L : List Ent) : Prop := ∃ A cp La B dp Lb, Row 3 1 (.slice A pre.length cp) (ints (pre.map (·.1))) La ∧ Row 3 1 (.slice B pre.length dp) (ints (pre.map (·.2))) Lb ∧ pre.length ≤ m ∧
  L = Lb ++ (La ++ [(k7, cel 38 [.slice B pre.length dp]), (k6, cel 38 [.slice A pre.length cp])])
def hgX (k6 k7 m : Nat) (e : Exit) (pre : List (Int × Int)) (L : List Ent) : Prop := e = .exit 0 ∧ ∃ p x, pre = p ++ [x] ∧ hgI k6 k7 m p L ∧ p.length = m
theorem told_pre {l : List Ins} {x : Int × Int} {pre rest : List (Int × Int)} (h : told l = pre ++ x :: rest) : pre.length < l.length := by
  have := told_le l
  rw [h] at this; simp at this; omega
theorem map_split {pre rest : List Vis} {x : Vis} {F : List Vis} (h : F = pre ++ x :: rest) : F.map pr = pre.map pr ++ pr x :: rest.map pr := by rw [h]; simp
end Go.Proofs.Ytnebpklmbefmfaa

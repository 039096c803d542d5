/- Frames as data; what a frame does, in plain Lean. No program in sight but the numbers of its types. -/
import Derived.Test.YtekepfpkihnodaaCodeL
import Derived.Test.YtekepfpkihnodaaSymPtr
set_option linter.unusedVariables false
set_option linter.unusedSimpArgs false
namespace Go.Proofs.Ytekepfpkihnodaa
open Go.RowKit
theorem el_i64 : ElT Try.prog 2 1 8 [.int .i64 0] := ElT.mk' (by kernel_rfl) zt2 rfl rfl
structure Ev where
  kind : Int
  slot : Int
  meth : Int
  n : Int
  code : Int
  deriving DecidableEq
def Ev.cells (x : Ev) : List Value := [.int .i64 x.kind, .int .i64 x.slot, .int .i64 x.meth, .int .i64 x.n, .int .i64 x.code]
theorem Ev.len (x : Ev) : x.cells.length = 5 := rfl
theorem Ev.one (x : Ev) : ∀ u ∈ x.cells, u.oneCell' = true := by
  intro u hu
  simp only [Ev.cells, List.mem_cons, List.not_mem_nil, or_false] at hu
  rcases hu with rfl | rfl | rfl | rfl | rfl <;> rfl
theorem eqg_ev : Try.prog.eqGuardType Try.prog.depth 30 = false := by kernel_rfl
theorem eq_ev (x y : Ev) : EqR Try.prog 10000 30 (.agg x.cells.toArray) (.agg y.cells.toArray) (x = y) := by
  refine (EqR.struct (d := 9999) Try.underlying30 (by kernel_rfl) (FldsR.cons (by decide) (p := x.kind = y.kind) ⟨.int .i64 x.kind, .int .i64 y.kind, part_s sc3 rfl, part_s sc3 rfl, EqR.int (d := 9998) Try.underlying3⟩
    (FldsR.cons (by decide) (p := x.slot = y.slot) ⟨.int .i64 x.slot, .int .i64 y.slot, part_s sc3 rfl, part_s sc3 rfl, EqR.int (d := 9998) Try.underlying3⟩
    (FldsR.cons (by decide) (p := x.meth = y.meth) ⟨.int .i64 x.meth, .int .i64 y.meth, part_s sc3 rfl, part_s sc3 rfl, EqR.int (d := 9998) Try.underlying3⟩
    (FldsR.cons (by decide) (p := x.n = y.n) ⟨.int .i64 x.n, .int .i64 y.n, part_s sc2 rfl, part_s sc2 rfl, EqR.int (d := 9998) Try.underlying2⟩
    (FldsR.cons (by decide) (p := x.code = y.code) ⟨.int .i64 x.code, .int .i64 y.code, part_s sc23 rfl, part_s sc23 rfl, EqR.int (d := 9998) Try.underlying23⟩ FldsR.nil)))))).congr ?_
  constructor
  · rintro ⟨h1, h2, h3, h4, h5, _⟩; cases x; cases y; simp_all
  · rintro rfl; exact ⟨rfl, rfl, rfl, rfl, rfl, trivial⟩
/-! A frame at work. -/
structure Fr where
  pc : Nat
  st : List Int
  calls : Bool
  over : Bool
  deriving DecidableEq
def w64 (n : Int) : Int := IntKind.i64.wrap n
def top (l : List Int) : Int := l.getLastD 0
inductive Got where
  | go (v : Int) (s : Fr)
  | stop (e : Ev) (v : Int) (s : Fr)
def stepI (x : Ins) (arg v : Int) (s : Fr) : Got :=
  if x.op = 1 then .go v ⟨s.pc + 1, s.st ++ [x.a], false, false⟩
  else if x.op = 2 then .go v ⟨s.pc + 1, s.st ++ [arg], false, false⟩
  else if x.op = 3 then .go v ⟨s.pc + 1, s.st ++ [v], false, false⟩
  else if x.op = 4 then .go (top s.st) ⟨s.pc + 1, s.st.dropLast, false, false⟩
  else if x.op = 5 then .go v ⟨s.pc + 1, s.st.dropLast.dropLast ++ [w64 (top s.st.dropLast + top s.st)], false, false⟩
  else if x.op = 6 then .go v ⟨s.pc + 1, s.st.dropLast ++ [w64 (0 - top s.st)], false, false⟩
  else if x.op = 7 then .go v ⟨if top s.st = 0 then s.pc + 1 + x.a.toNat else s.pc + 1, s.st.dropLast, false, false⟩
  else if x.op = 8 then .stop ⟨2, x.a, x.b, top s.st, 0⟩ v ⟨s.pc + 1, s.st.dropLast, true, false⟩
  else if x.op = 9 then .stop ⟨3, x.a, 0, 0, 0⟩ v ⟨s.pc + 1, s.st, false, false⟩
  else if x.op = 10 then .stop ⟨4, x.a, 0, 0, 0⟩ v ⟨s.pc + 1, s.st, false, false⟩
  else .stop ⟨1, 0, 0, top s.st, 0⟩ v ⟨s.pc, s.st.dropLast, false, true⟩
def runN (l : List Ins) (arg : Int) : Nat → Int → Fr → Ev × Int × Fr
  | 0, v, s => (⟨0, 0, 0, 0, 0⟩, v, s)
  | n + 1, v, s => match l[s.pc]? with
    | none => (⟨0, 0, 0, 0, 0⟩, v, s)
    | some x => match stepI x arg v s with
      | .go v' s' => runN l arg n v' s'
      | .stop e v' s' => (e, v', s')
def opened (r : Int) (s : Fr) : Fr := if s.calls then ⟨s.pc, s.st ++ [r], false, false⟩ else ⟨s.pc, s.st, false, false⟩
def nextP (l : List Ins) (arg r v : Int) (s : Fr) : Ev × Int × Fr :=
  if s.over then (⟨5, 0, 0, 0, 12⟩, v, s) else runN l arg l.length v (opened r s)
theorem nextP_over {l : List Ins} {arg r v : Int} {s : Fr} (h : s.over = true) : nextP l arg r v s = (⟨5, 0, 0, 0, 12⟩, v, s) := if_pos h
theorem nextP_at {l : List Ins} {arg r v : Int} {s : Fr} (h : s.over = false) : nextP l arg r v s = runN l arg l.length v (opened r s) := if_neg (by rw [h]; simp)
/-- At work on a valid row: ahead of an instruction, as many numbers on the stack as its height. -/
structure Wk (l : List Ins) (s : Fr) : Prop where
  lt : s.pc < l.length
  ht : (hts l 8 l.length)[s.pc]? = some (s.st.length : Int)
  no : s.calls = false ∧ s.over = false
/-- A frame between two calls of Next. -/
def FrOk (l : List Ins) (s : Fr) : Prop := if s.over then s.st = [] ∧ s.calls = false ∧ s.pc < l.length else Wk l (opened 0 s)
theorem Wk.calls_eq {l : List Ins} {s : Fr} (h : Wk l s) : s = ⟨s.pc, s.st, false, false⟩ := by
  obtain ⟨h1, h2⟩ := h.no
  cases s; simp_all
theorem opened_pc (r : Int) (s : Fr) : (opened r s).pc = s.pc := by unfold opened; split <;> rfl
theorem opened_no (r : Int) (s : Fr) : (opened r s).calls = false ∧ (opened r s).over = false := by unfold opened; split <;> exact ⟨rfl, rfl⟩
theorem opened_len (r r' : Int) (s : Fr) : (opened r s).st.length = (opened r' s).st.length := by unfold opened; split <;> simp
theorem FrOk.wk {l : List Ins} {s : Fr} (h : FrOk l s) (ho : s.over = false) (r : Int) : Wk l (opened r s) := by
  unfold FrOk at h
  rw [if_neg (by rw [ho]; simp)] at h
  exact ⟨by rw [opened_pc]; have := h.lt; rwa [opened_pc] at this, by have := h.ht; rw [opened_pc] at this ⊢; rw [opened_len r 0]; exact this, opened_no _ _⟩
/-- What is known of the instruction that comes. -/
structure At (l : List Ins) (s : Fr) (x : Ins) : Prop where
  ins : l[s.pc]? = some x
  op1 : 1 ≤ x.op
  op2 : x.op ≤ 11
  tk : takeP x.op ≤ s.st.length
  deep : (s.st.length : Int) ≤ 8
  left : leftP x s.st.length ≤ 8
  ret : x.op = 11 → s.st.length = 1
  nxt : x.op ≠ 11 → s.pc + 1 < l.length
  skip : x.op = 7 → 1 ≤ x.a ∧ x.a.toNat + s.pc + 1 < l.length ∧ x.a ≤ 32
  l32 : l.length ≤ 32
theorem leftP_op {x : Ins} {n : Int} (h : takeP x.op ≤ n) (h1 : 1 ≤ x.op) (h2 : x.op ≤ 11) (h8 : leftP x n ≤ 8) : x.op = 4 ∨ x.op = 5 ∨ x.op = 6 ∨ x.op = 7 ∨ x.op = 8 ∨ x.op = 9 ∨ x.op = 10 ∨ x.op = 11 ∨ n ≤ 8 := by
  have := left_cases x n
  omega
theorem hts_cap {l : List Ins} (h : Valid l 8) {k : Nat} {v : Int} (hk : (hts l 8 l.length)[k]? = some v) : v ≤ 8 := by
  obtain ⟨y, h1, h2, h3⟩ := hts_fine l.length k v hk
  rcases Nat.eq_zero_or_pos k with rfl | hpos
  · have := h.start; rw [this] at hk; injection hk with hk; omega
  · have hlt : k < l.length := (List.getElem?_eq_some_iff.1 h1).1
    have hm : 1 ≤ v + 1 := (wrongAt_none h2).2.1
    obtain ⟨j, z, hj, hz, hgo⟩ := markN_from (l := l) (H := hts l 8 l.length) (t := k) (by omega) k (by omega)
    obtain ⟨u, hu⟩ : ∃ u, (hts l 8 l.length)[j]? = some u := ⟨_, List.getElem?_eq_getElem (by rw [h.all]; omega)⟩
    have h5 := h.goes hz hu hgo hj hlt
    rw [hk] at h5
    have := (left_range hu hz).2.2.2
    injection h5 with h5; omega
theorem Wk.at {l : List Ins} {s : Fr} (hv : Valid l 8) (h : Wk l s) : ∃ x, At l s x := by
  obtain ⟨x, hh, hx, hg, hm, hok, htk, h0, hret, hle, hnx, hsk⟩ := hv.at h.lt
  have e := h.ht
  rw [hg] at e
  obtain rfl := Option.some.inj e
  obtain ⟨o1, o2⟩ := ok_op hok
  have hl := hv.len
  refine ⟨x, hx, o1, o2, htk, hts_cap hv hg, hle, fun h => by have := hret h; omega, fun h => by have := hnx h; omega, fun h => ?_, by omega⟩
  have h7 := hsk h
  have : 1 ≤ x.a := by unfold okP at hok; rw [if_neg (by omega), if_pos h] at hok; exact (of_decide_eq_true hok).1
  omega
theorem dropLast_len (l : List Int) : l.dropLast.length = l.length - 1 := by simp
theorem Wk.next {l : List Ins} {s : Fr} (hv : Valid l 8) (h : Wk l s) {x : Ins} (hx : At l s x) {arg v v' : Int} {s' : Fr} (hs : stepI x arg v s = .go v' s') : Wk l s' ∧ s.pc < s'.pc := by
  have key : ∀ t (st : List Int), goesP x s.pc t = true → s.pc < t → t < l.length → (st.length : Int) = leftP x s.st.length → Wk l ⟨t, st, false, false⟩ := by
    intro t st hgo h1 h2 h3
    exact ⟨h2, by rw [h3]; exact hv.goes hx.ins h.ht hgo h1 h2, rfl, rfl⟩
  have hc := left_cases x s.st.length
  have htk := hx.tk
  unfold stepI at hs
  have nx : ∀ st : List Int, x.op ≠ 11 → (st.length : Int) = leftP x s.st.length → Wk l ⟨s.pc + 1, st, false, false⟩ ∧ s.pc < s.pc + 1 := fun st h1 h2 => ⟨key _ st (goes_next h1) (by omega) (hx.nxt h1) h2, by omega⟩
  split at hs
  · injection hs with _ hs; subst hs; exact nx _ (by omega) (by rw [hc.1 (by omega)]; simp)
  · split at hs
    · injection hs with _ hs; subst hs; exact nx _ (by omega) (by rw [hc.1 (by omega)]; simp)
    · split at hs
      · injection hs with _ hs; subst hs; exact nx _ (by omega) (by rw [hc.1 (by omega)]; simp)
      · split at hs
        · rename_i h4
          have t1 : 1 ≤ s.st.length := by have : takeP x.op = 1 := by rw [h4]; rfl
                                          omega
          injection hs with _ hs; subst hs; exact nx _ (by omega) (by rw [hc.2.1 (by omega), dropLast_len]; omega)
        · split at hs
          · rename_i h5
            have t1 : 2 ≤ s.st.length := by have : takeP x.op = 2 := by rw [h5]; rfl
                                            omega
            injection hs with _ hs; subst hs; exact nx _ (by omega) (by rw [hc.2.1 (by omega), List.length_append, dropLast_len, dropLast_len]; simp; omega)
          · split at hs
            · rename_i h6
              have t1 : 1 ≤ s.st.length := by have : takeP x.op = 1 := by rw [h6]; rfl
                                              omega
              injection hs with _ hs; subst hs; exact nx _ (by omega) (by rw [hc.2.2 (by omega), List.length_append, dropLast_len]; simp; omega)
            · split at hs
              · rename_i h7
                have t1 : 1 ≤ s.st.length := by have : takeP x.op = 1 := by rw [h7]; rfl
                                                omega
                obtain ⟨a1, a2, a3⟩ := hx.skip h7
                injection hs with _ hs; subst hs
                split
                · refine ⟨key _ _ ?_ (by omega) (by omega) (by rw [hc.2.1 (by omega), dropLast_len]; omega), by show s.pc < s.pc + 1 + x.a.toNat; omega⟩
                  have := goes_skip (k := s.pc) h7 a1
                  rwa [show s.pc + x.a.toNat + 1 = s.pc + 1 + x.a.toNat by omega] at this
                · exact nx _ (by omega) (by rw [hc.2.1 (by omega), dropLast_len]; omega)
              · split at hs
                · cases hs
                · split at hs
                  · cases hs
                  · split at hs
                    · cases hs
                    · cases hs
theorem Wk.stop {l : List Ins} {s : Fr} (hv : Valid l 8) (h : Wk l s) {x : Ins} (hx : At l s x) {arg v v' : Int} {e : Ev} {s' : Fr} (hs : stepI x arg v s = .stop e v' s') : FrOk l s' ∧ v' = v ∧ s.pc ≤ s'.pc ∧ (s'.over = false → s.pc < s'.pc) ∧ s'.st.length ≤ 8 ∧ (e.kind = 1 ↔ s'.over = true) := by
  have hc := left_cases x s.st.length
  have htk := hx.tk
  have hd := hx.deep
  have o1 := hx.op1
  have o2 := hx.op2
  unfold stepI at hs
  repeat' (split at hs <;> try (cases hs; done))
  · rename_i h8
    have t1 : 1 ≤ s.st.length := by have : takeP x.op = 1 := by rw [h8]; rfl
                                    omega
    injection hs with h1 h2 h3; subst h1 h2 h3
    refine ⟨?_, rfl, by show s.pc ≤ s.pc + 1; omega, fun _ => by show s.pc < s.pc + 1; omega, by show s.st.dropLast.length ≤ 8; rw [dropLast_len]; omega, by simp⟩
    unfold FrOk
    rw [if_neg (by simp)]
    refine ⟨hx.nxt (by omega), ?_, opened_no _ _⟩
    show (hts l 8 l.length)[s.pc + 1]? = some (((s.st.dropLast ++ [0]).length : Nat) : Int)
    rw [hv.goes hx.ins h.ht (goes_next (by omega)) (by omega) (hx.nxt (by omega)), hc.2.2 (by omega), List.length_append, dropLast_len]
    congr 1
    simp; omega
  · rename_i h9
    injection hs with h1 h2 h3; subst h1 h2 h3
    refine ⟨?_, rfl, by show s.pc ≤ s.pc + 1; omega, fun _ => by show s.pc < s.pc + 1; omega, by show s.st.length ≤ 8; omega, by simp⟩
    unfold FrOk
    rw [if_neg (by simp)]
    refine ⟨hx.nxt (by omega), ?_, opened_no _ _⟩
    show (hts l 8 l.length)[s.pc + 1]? = some ((s.st.length : Nat) : Int)
    rw [hv.goes hx.ins h.ht (goes_next (by omega)) (by omega) (hx.nxt (by omega)), hc.2.2 (by omega)]
  · rename_i h10
    injection hs with h1 h2 h3; subst h1 h2 h3
    refine ⟨?_, rfl, by show s.pc ≤ s.pc + 1; omega, fun _ => by show s.pc < s.pc + 1; omega, by show s.st.length ≤ 8; omega, by simp⟩
    unfold FrOk
    rw [if_neg (by simp)]
    refine ⟨hx.nxt (by omega), ?_, opened_no _ _⟩
    show (hts l 8 l.length)[s.pc + 1]? = some ((s.st.length : Nat) : Int)
    rw [hv.goes hx.ins h.ht (goes_next (by omega)) (by omega) (hx.nxt (by omega)), hc.2.2 (by omega)]
  · injection hs with h1 h2 h3; subst h1 h2 h3
    have h11 := hx.ret (by omega)
    refine ⟨?_, rfl, Nat.le_refl _, fun h => by simp at h, by show s.st.dropLast.length ≤ 8; rw [dropLast_len]; omega, by simp⟩
    unfold FrOk
    rw [if_pos rfl]
    exact ⟨List.eq_nil_of_length_eq_zero (by rw [dropLast_len, h11]), rfl, h.lt⟩
theorem runN_go {l : List Ins} {arg v v' : Int} {n : Nat} {s s' : Fr} {x : Ins} (hx : l[s.pc]? = some x) (hs : stepI x arg v s = .go v' s') : runN l arg (n + 1) v s = runN l arg n v' s' := by simp only [runN]; rw [hx]; simp only []; rw [hs]
theorem runN_stop {l : List Ins} {arg v v' : Int} {n : Nat} {s s' : Fr} {e : Ev} {x : Ins} (hx : l[s.pc]? = some x) (hs : stepI x arg v s = .stop e v' s') : runN l arg (n + 1) v s = (e, v', s') := by simp only [runN]; rw [hx]; simp only []; rw [hs]
/-- What a run comes to. -/
theorem runN_fine {l : List Ins} (hv : Valid l 8) (arg : Int) : ∀ n v s, Wk l s → l.length ≤ n + s.pc → FrOk l (runN l arg n v s).2.2 ∧ s.pc ≤ (runN l arg n v s).2.2.pc ∧ ((runN l arg n v s).2.2.over = false → s.pc < (runN l arg n v s).2.2.pc) ∧ (runN l arg n v s).2.2.st.length ≤ 8 ∧ ((runN l arg n v s).1.kind = 1 ↔ (runN l arg n v s).2.2.over = true)
  | 0, v, s, h, hn => by have := h.lt; omega
  | n + 1, v, s, h, hn => by
    obtain ⟨x, hx⟩ := h.at hv
    cases hs : stepI x arg v s with
    | go v' s' =>
      obtain ⟨h1, h2⟩ := h.next hv hx hs
      rw [runN_go hx.ins hs]
      obtain ⟨a1, a2, a3, a4, a5⟩ := runN_fine hv arg n v' s' h1 (by omega)
      exact ⟨a1, by omega, fun h => by have := a3 h; omega, a4, a5⟩
    | stop e v' s' =>
      obtain ⟨a1, a2, a3, a4, a5, a6⟩ := h.stop hv hx hs
      rw [runN_stop hx.ins hs]
      exact ⟨a1, a3, a4, a5, a6⟩
theorem nextP_fine {l : List Ins} (hv : Valid l 8) (arg r v : Int) {s : Fr} (h : FrOk l s) : FrOk l (nextP l arg r v s).2.2 ∧ (nextP l arg r v s).2.2.st.length ≤ 8 ∧ (s.over = false → s.pc ≤ (nextP l arg r v s).2.2.pc ∧ ((nextP l arg r v s).2.2.over = false → s.pc < (nextP l arg r v s).2.2.pc) ∧ ((nextP l arg r v s).1.kind = 1 ↔ (nextP l arg r v s).2.2.over = true)) := by
  cases ho : s.over with
  | true =>
    rw [nextP_over ho]
    refine ⟨h, ?_, fun h => by cases h⟩
    unfold FrOk at h; rw [if_pos ho] at h
    show s.st.length ≤ 8
    rw [h.1]; simp
  | false =>
    rw [nextP_at ho]
    obtain ⟨a1, a2, a3, a4, a5⟩ := runN_fine hv arg l.length v _ (h.wk ho r) (by omega)
    rw [opened_pc] at a2 a3
    exact ⟨a1, a4, fun _ => ⟨a2, a3, a5⟩⟩
theorem FrOk.start {l : List Ins} (hv : Valid l 8) : FrOk l ⟨0, [], false, false⟩ := by
  unfold FrOk
  rw [if_neg (by simp)]
  exact ⟨by have := hv.len; show 0 < l.length; omega, by show (hts l 8 l.length)[0]? = some 0; exact hv.start, opened_no _ _⟩
theorem FrOk.pc {l : List Ins} {s : Fr} (h : FrOk l s) : s.pc < l.length := by
  unfold FrOk at h
  split at h
  · exact h.2.2
  · have := h.lt; rwa [opened_pc] at this
/-! Lists as stacks. -/
theorem top_get {l : List Int} (h : 0 < l.length) : l[l.length - 1]? = some (top l) := by
  unfold top
  rw [List.getLastD_eq_getLast?, List.getLast?_eq_getElem?]
  cases hx : l[l.length - 1]? with
  | none => rw [List.getElem?_eq_none_iff] at hx; omega
  | some v => rfl
theorem dropLast_take (l : List Int) : l.dropLast = l.take (l.length - 1) := List.dropLast_eq_take
theorem w64_add_u (a b : Int) : w64 (IntKind.u64.wrap (IntKind.u64.wrap a + IntKind.u64.wrap b)) = w64 (b + a) := by
  simp only [w64, IntKind.wrap, IntKind.signed, IntKind.bits]
  simp
  omega
theorem w64_neg_u (a : Int) : w64 (IntKind.u64.wrap (0 - IntKind.u64.wrap a)) = w64 (0 - a) := by
  simp only [w64, IntKind.wrap, IntKind.signed, IntKind.bits]
  simp
  omega
theorem ints_snoc (xs : List Int) (x : Int) : ints (xs ++ [x]) = ints xs ++ [.int .i64 x] := by simp [ints]
theorem ints_one (xs : List Int) : ∀ u ∈ ints xs, u.oneCell' = true := by
  intro u hu
  unfold ints at hu
  obtain ⟨x, _, rfl⟩ := List.mem_map.1 hu
  rfl
theorem Row.room {e sz : Nat} {v : Value} {xs : List Value} {Lr : List Ent} (h : Row e sz v xs Lr) : ∀ {b m cp : Nat} {l : List Value}, v = .slice (some ⟨b, 0, none⟩) m cp → Lr = [(b, cel e l)] → l.length = cp * sz ∧ m ≤ cp := by
  cases h with
  | nil => intro b m cp l hv hl; cases hv
  | blk b m cp xs junk h1 h2 h3 =>
    intro b' m' cp' l hv hl
    injection hv with _ h5 h6
    subst h5 h6
    have := congrArg (fun q => q.map (fun p => p.2)) hl
    simp only [List.map_cons, List.map_nil, List.cons.injEq, and_true, Obj.cells.injEq] at this
    have e2 : xs ++ junk = l := by simpa using congrArg Array.toList this
    rw [← e2]; exact ⟨h2, h3⟩
/-- A row of numbers without its last: its block holds what it held. -/
theorem row_short {e b cp : Nat} {xs : List Int} {junk : List Value} (h : Row e 1 (.slice (some ⟨b, 0, none⟩) xs.length cp) (ints xs) [(b, cel e (ints xs ++ junk))]) : Row e 1 (.slice (some ⟨b, 0, none⟩) xs.dropLast.length cp) (ints xs.dropLast) [(b, cel e (ints xs ++ junk))] := by
  obtain ⟨h2, h3⟩ := h.room rfl rfl
  rcases List.eq_nil_or_concat xs with rfl | ⟨ys, y, rfl⟩
  · exact Row.blk b 0 cp [] _ rfl h2 (Nat.zero_le _)
  · have e1 : (ys.concat y).dropLast = ys := by simp
    have e2 : ints (ys.concat y) ++ junk = ints ys ++ (.int .i64 y :: junk) := by simp [ints]
    rw [e2] at h2
    rw [e1, e2]
    exact Row.blk b ys.length cp (ints ys) (.int .i64 y :: junk) (by rw [ints_length, Nat.mul_one]) h2 (by simp at h3; omega)
theorem ints_drop {xs : List Int} {j : Nat} {v : Value} (h : (ints xs.dropLast)[j]? = some v) : (ints xs)[j]? = some v := by
  unfold ints at h ⊢
  rw [List.getElem?_map] at h ⊢
  cases hj : xs.dropLast[j]? with
  | none => simp [hj] at h
  | some u =>
    rw [hj] at h
    have : xs[j]? = some u := by
      rw [List.getElem?_dropLast] at hj
      split at hj
      · exact hj
      · cases hj
    rw [this]; exact h
theorem row_cap {e sz n cp : Nat} {A : Option Addr} {xs : List Value} {Lr : List Ent} (h : Row e sz (.slice A n cp) xs Lr) : n ≤ cp := by
  cases h with
  | nil => exact Nat.le_refl _
  | blk b m cp xs junk h1 h2 h3 => exact h3
/-- What 'stack' holds so far; how its loop is left. -/
def gI (k m : Nat) (pre : List Int) (L : List Ent) : Prop := ∃ A cp Lr, Row 2 1 (.slice A pre.length cp) (ints pre) Lr ∧ pre.length ≤ m ∧ L = Lr ++ [(k, cel 35 [.slice A pre.length cp])]
def gX (k m : Nat) (e : Exit) (pre : List Int) (L : List Ent) : Prop := e = .exit 0 ∧ ∃ p x, pre = p ++ [x] ∧ gI k m p L ∧ p.length = m
theorem cells_st {w0 w : World} {S : List Nat} {L : List Ent} {b o : Nat} {l : List Value} (hst : St w0 S w L) (hc : CellsAt w0 b o l) (hS : 0 < l.length → b ∉ S) : CellsAt w b o l := by
  intro j v hv
  exact hst.cellI (hc j v hv) (hS (by have := (List.getElem?_eq_some_iff.1 hv).1; omega))
theorem take_snoc_at {l : List Int} {g : Nat} {x : Int} (h : l[g]? = some x) : l.take (g + 1) = l.take g ++ [x] ∧ l = l.take g ++ x :: l.drop (g + 1) := by
  obtain ⟨hg, e⟩ := List.getElem?_eq_some_iff.1 h
  have t1 := List.take_succ_eq_append_getElem (l := l) (i := g) hg
  rw [e] at t1
  refine ⟨t1, ?_⟩
  rw [← e]; simp
end Go.Proofs.Ytekepfpkihnodaa

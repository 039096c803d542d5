/- Classes and modules of one's own: rows within rows. -/
import Derived.Test.YtnebpklmbefmfaaParse
set_option linter.unusedVariables false
set_option linter.unusedSimpArgs false
namespace Go.Proofs.Ytnebpklmbefmfaa
open Go.RowKit
theorem el_face : ElT Try.prog 93 17 24 [.int .u8 0, .int .u8 0, .int .u8 0, .int .u8 0, .int .u8 0, .int .u8 0, .int .u8 0, .int .u8 0, .int .u8 0, .int .u8 0, .int .u8 0, .int .u8 0, .int .u8 0, .int .u8 0, .int .u8 0, .int .u8 0, .int .i64 0] := ElT.mk' (by kernel_rfl) zt93 rfl rfl
theorem el_sl : ElT Try.prog 78 1 24 [.slice none 0 0] := ElT.mk' (by kernel_rfl) zt78 rfl rfl
theorem el_cl : ElT Try.prog 69 19 72 [.int .u8 0, .int .u8 0, .int .u8 0, .int .u8 0, .int .u8 0, .int .u8 0, .int .u8 0, .int .u8 0, .int .u8 0, .int .u8 0, .int .u8 0, .int .u8 0, .int .u8 0, .int .u8 0, .int .u8 0, .int .u8 0, .slice none 0 0, .int .i64 0, .slice none 0 0] := ElT.mk' (by kernel_rfl) zt69 rfl rfl
theorem build_cl16 (x0 x1 x2 x3 x4 x5 x6 x7 x8 x9 x10 x11 x12 x13 x14 x15 : Int) (w : World) : (Instr.build 69 #[(0, Value.agg #[.int .u8 x0, .int .u8 x1, .int .u8 x2, .int .u8 x3, .int .u8 x4, .int .u8 x5, .int .u8 x6, .int .u8 x7, .int .u8 x8, .int .u8 x9, .int .u8 x10, .int .u8 x11, .int .u8 x12, .int .u8 x13, .int .u8 x14, .int .u8 x15])]).run Try.prog w = .ok (.agg #[.int .u8 x0, .int .u8 x1, .int .u8 x2, .int .u8 x3, .int .u8 x4, .int .u8 x5, .int .u8 x6, .int .u8 x7, .int .u8 x8, .int .u8 x9, .int .u8 x10, .int .u8 x11, .int .u8 x12, .int .u8 x13, .int .u8 x14, .int .u8 x15, .slice none 0 0, .int .i64 0, .slice none 0 0]) w := by kernel_rfl
theorem build_face16 (x0 x1 x2 x3 x4 x5 x6 x7 x8 x9 x10 x11 x12 x13 x14 x15 b : Int) (w : World) : (Instr.build 93 #[(0, Value.agg #[.int .u8 x0, .int .u8 x1, .int .u8 x2, .int .u8 x3, .int .u8 x4, .int .u8 x5, .int .u8 x6, .int .u8 x7, .int .u8 x8, .int .u8 x9, .int .u8 x10, .int .u8 x11, .int .u8 x12, .int .u8 x13, .int .u8 x14, .int .u8 x15]), (1, .int .i64 b)]).run Try.prog w = .ok (.agg #[.int .u8 x0, .int .u8 x1, .int .u8 x2, .int .u8 x3, .int .u8 x4, .int .u8 x5, .int .u8 x6, .int .u8 x7, .int .u8 x8, .int .u8 x9, .int .u8 x10, .int .u8 x11, .int .u8 x12, .int .u8 x13, .int .u8 x14, .int .u8 x15, .int .i64 b]) w := by kernel_rfl
theorem build_cl {id : List Int} (h : id.length = 16) (w : World) : (Instr.build 69 [(0, Value.agg (gcells id).toArray)].toArray).run Try.prog w = .ok (.agg (clCells id (.slice none 0 0) 0 (.slice none 0 0)).toArray) w :=
  match id, h with
  | [x0, x1, x2, x3, x4, x5, x6, x7, x8, x9, x10, x11, x12, x13, x14, x15], _ => build_cl16 x0 x1 x2 x3 x4 x5 x6 x7 x8 x9 x10 x11 x12 x13 x14 x15 w
theorem build_face {id : List Int} (h : id.length = 16) (b : Int) (w : World) : (Instr.build 93 [(0, Value.agg (gcells id).toArray), (1, .int .i64 b)].toArray).run Try.prog w = .ok (.agg (Face.cells ⟨id, b⟩).toArray) w :=
  match id, h with
  | [x0, x1, x2, x3, x4, x5, x6, x7, x8, x9, x10, x11, x12, x13, x14, x15], _ => build_face16 x0 x1 x2 x3 x4 x5 x6 x7 x8 x9 x10 x11 x12 x13 x14 x15 b w
theorem Rd.stN {w0 w : World} {S : List Nat} {L : List Ent} {A : Option Addr} {cs : List Value} (h : Rd w0 A cs) (hst : St w0 S w L) (hS : ∀ b o, A = some ⟨b, o, none⟩ → b ∉ S) : Rd w A cs := by
  obtain ⟨b, o, h1, h2⟩ := h
  refine ⟨b, o, h1, fun j v hv => ?_⟩
  exact hst.cellI (h2 j v hv) (hS b o (h1 (by have := (List.getElem?_eq_some_iff.1 hv).1; omega)))
/-- The reader has come from one place to another. -/
structure Nxt (A : Option Addr) (cp : Nat) (r : List Int) (A' : Option Addr) (cp' : Nat) (r' : List Int) : Prop where
  rd : ∀ w, Rd w A (gcells r) → Rd w A' (gcells r')
  cap : r'.length ≤ cp'
  blk : ∀ a', A' = some a' → ∃ a, A = some a ∧ a.block = a'.block
  suf : ∃ k, r' = r.drop k
theorem Nxt.refl {A : Option Addr} {cp : Nat} {r : List Int} (h : r.length ≤ cp) : Nxt A cp r A cp r := ⟨fun _ h => h, h, fun a h => ⟨a, h, rfl⟩, 0, rfl⟩
theorem Nxt.trans {A B C : Option Addr} {a b c : Nat} {r s t : List Int} (h1 : Nxt A a r B b s) (h2 : Nxt B b s C c t) : Nxt A a r C c t :=
  ⟨fun w h => h2.rd w (h1.rd w h), h2.cap, fun a h => let ⟨a2, h3, h4⟩ := h2.blk a h; let ⟨a3, h5, h6⟩ := h1.blk a2 h3; ⟨a3, h5, h6.trans h4⟩, by
    obtain ⟨k, rfl⟩ := h1.suf
    obtain ⟨j, rfl⟩ := h2.suf
    exact ⟨k + j, by rw [List.drop_drop]⟩⟩
theorem Nxt.cut {A : Option Addr} {cp n : Nat} {r : List Int} (hn : n ≤ r.length) (hc : r.length ≤ cp) : Nxt A cp r (cutA A cp n) (cp - n) (r.drop n) :=
  ⟨fun w h => h.cut hn hc, by rw [List.length_drop]; omega, fun a' h => by
    unfold cutA at h
    split at h
    · exact ⟨a', h, rfl⟩
    · cases A with
      | none => cases h
      | some a =>
        simp only [Option.map_some, Option.some.injEq] at h
        refine ⟨a, rfl, ?_⟩
        rw [← h]
        unfold Addr.add
        split <;> rfl, n, rfl⟩
theorem Nxt.len {A : Option Addr} {cp : Nat} {r : List Int} {A' : Option Addr} {cp' : Nat} {r' : List Int} (h : Nxt A cp r A' cp' r') : r'.length ≤ r.length := by
  obtain ⟨k, rfl⟩ := h.suf; rw [List.length_drop]; omega
theorem Nxt.byt {A : Option Addr} {cp : Nat} {r : List Int} {A' : Option Addr} {cp' : Nat} {r' : List Int} (h : Nxt A cp r A' cp' r') (hb : Byt r) : Byt r' := by
  obtain ⟨k, rfl⟩ := h.suf; exact hb.drop k
/-- What the reader reads lies somewhere else than the reader. -/
structure Src (w : World) (sb : Nat) (A : Option Addr) (cp : Nat) (r : List Int) : Prop where
  rd : Rd w A (gcells r)
  cap : r.length ≤ cp
  nb : ∀ a, A = some a → a.block ≠ sb
  len : r.length ≤ 1000000
  byt : Byt r
theorem Src.nxt {w : World} {sb : Nat} {A : Option Addr} {cp : Nat} {r : List Int} {A' : Option Addr} {cp' : Nat} {r' : List Int} (h : Src w sb A cp r) (n : Nxt A cp r A' cp' r') : Src w sb A' cp' r' :=
  ⟨n.rd w h.rd, n.cap, fun a ha => by obtain ⟨a2, h1, h2⟩ := n.blk a ha; rw [← h2]; exact h.nb a2 h1, by have := n.len; have := h.len; omega, n.byt h.byt⟩
theorem Src.st {w0 w : World} {sb : Nat} {A : Option Addr} {cp : Nat} {r : List Int} {L : List Ent} (h : Src w0 sb A cp r) (hst : St w0 [sb] w L) : Src w sb A cp r :=
  ⟨h.rd.stN hst (fun b o he => by have := h.nb _ he; simpa using this), h.cap, h.nb, h.len, h.byt⟩
theorem Src.at {w : World} {sb : Nat} {A : Option Addr} {cp : Nat} {r : List Int} (h : Src w sb A cp r) (h0 : 0 < r.length) : ∃ bb oo, A = some ⟨bb, oo, none⟩ ∧ CellsAt w bb oo (gcells r) ∧ bb ∉ [sb] := by
  obtain ⟨b, o, h1, h2⟩ := h.rd
  have e := h1 (by rw [gcells_len]; exact h0)
  exact ⟨b, o, e, h2, by have := h.nb _ e; simpa using this⟩
theorem cells_take {w : World} {b o n : Nat} {r : List Int} (h : CellsAt w b o (gcells r)) : CellsAt w b o (gcells (r.take n)) := by
  intro j v hv
  refine h j v ?_
  simp only [gcells, List.map_take, List.getElem?_take] at hv ⊢
  split at hv
  · exact hv
  · cases hv
theorem cell_d {w : World} {b o n : Nat} {r : List Int} (h : CellsAt w b o (gcells r)) (hn : n < r.length) : w.cell? ⟨b, o + n, none⟩ = some (.int .u8 (r.getD n 0)) := by
  refine h n _ (gcells_get ?_)
  rw [List.getD_eq_getElem?_getD, List.getElem?_eq_getElem hn]; rfl
/-- Rows of instructions of one's own, within a row. -/
inductive MsO : List (List Ins) → List Value → List Ent → Prop
  | nil : MsO [] [] []
  | snoc {ls : List (List Ins)} {ms : List Value} {L : List Ent} {A : Option Addr} {c : Nat} {l : List Ins} {Ll : List Ent} (h : MsO ls ms L) (hr : Row 77 3 (.slice A l.length c) (icells l) Ll) : MsO (ls ++ [l]) (ms ++ [.slice A l.length c]) (L ++ Ll)
theorem MsO.len {ls : List (List Ins)} {ms : List Value} {L : List Ent} (h : MsO ls ms L) : ms.length = ls.length := by
  induction h with
  | nil => rfl
  | snoc h hr ih => simp [ih]
theorem MsO.reads {w0 w : World} {S : List Nat} {L' : List Ent} (hst : St w0 S w L') {ls : List (List Ins)} {ms : List Value} {L : List Ent} (h : MsO ls ms L) : (∀ p ∈ L, p ∈ L') → MsR w ls ms := by
  induction h with
  | nil => intro _; exact ⟨rfl, fun i l hl => by simp at hl⟩
  | snoc h hr ih =>
    rename_i ls ms L A c l Ll
    intro hs
    have h1 := ih (fun p hp => hs p (List.mem_append_left _ hp))
    refine ⟨by simp [h.len], fun i l2 hl2 => ?_⟩
    rcases Nat.lt_or_ge i ls.length with hlt | hge
    · rw [List.getElem?_append_left hlt] at hl2
      obtain ⟨A2, c2, h2, h3⟩ := h1.2 i l2 hl2
      exact ⟨A2, c2, by rw [List.getElem?_append_left (by rw [h.len]; exact hlt)]; exact h2, h3⟩
    · rw [List.getElem?_append_right hge] at hl2
      have h4 := (List.getElem?_eq_some_iff.1 hl2).1
      simp at h4
      obtain rfl : i = ls.length := by omega
      simp at hl2
      subst hl2
      exact ⟨A, c, by rw [List.getElem?_append_right (by rw [h.len]; omega), h.len]; simp, row_rd hr hst (fun p hp => hs p (List.mem_append_right _ hp))⟩
/-- A class of one's own. -/
def ClO (cl : Cl) (cs : List Value) (L : List Ent) : Prop := cl.id.length = 16 ∧ (∀ f ∈ cl.faces, FaceOk f) ∧ ∃ Af cf Am cm ms Lf Lm Ls, cs = clCells cl.id (.slice Af cl.faces.length cf) cl.slots (.slice Am cl.methods.length cm) ∧
  Row 93 17 (.slice Af cl.faces.length cf) (fcells cl.faces) Lf ∧ Row 78 1 (.slice Am cl.methods.length cm) ms Lm ∧ MsO cl.methods ms Ls ∧ L = Lf ++ (Lm ++ Ls)
theorem ClO.reads {w0 w : World} {S : List Nat} {L' L : List Ent} {cl : Cl} {cs : List Value} (h : ClO cl cs L) (hst : St w0 S w L') (hs : ∀ p ∈ L, p ∈ L') : ClR w cl cs := by
  obtain ⟨h1, h2, Af, cf, Am, cm, ms, Lf, Lm, Ls, rfl, h4, h5, h6, rfl⟩ := h
  exact ⟨h1, h2, Af, cf, Am, cm, ms, rfl, row_rd h4 hst (fun p hp => hs p (by simp [hp])), row_rd h5 hst (fun p hp => hs p (by simp [hp])), h6.reads hst (fun p hp => hs p (by simp [hp]))⟩
inductive ClsO : List Cl → List (List Value) → List Ent → Prop
  | nil : ClsO [] [] []
  | snoc {m : List Cl} {css : List (List Value)} {L : List Ent} {c : Cl} {cs : List Value} {Lc : List Ent} (h : ClsO m css L) (hr : ClO c cs Lc) : ClsO (m ++ [c]) (css ++ [cs]) (L ++ Lc)
theorem ClsO.len {m : List Cl} {css : List (List Value)} {L : List Ent} (h : ClsO m css L) : css.length = m.length := by
  induction h with
  | nil => rfl
  | snoc h hr ih => simp [ih]
theorem ClsO.reads {w0 w : World} {S : List Nat} {L' : List Ent} (hst : St w0 S w L') {m : List Cl} {css : List (List Value)} {L : List Ent} (h : ClsO m css L) : (∀ p ∈ L, p ∈ L') → ∀ (i : Nat) cl, m[i]? = some cl → ∃ cs, css[i]? = some cs ∧ ClR w cl cs := by
  induction h with
  | nil => intro _ i cl hl; simp at hl
  | snoc h hr ih =>
    rename_i m css L c cs Lc
    intro hs i cl hl
    have h1 := ih (fun p hp => hs p (List.mem_append_left _ hp))
    rcases Nat.lt_or_ge i m.length with hlt | hge
    · rw [List.getElem?_append_left hlt] at hl
      obtain ⟨cs2, h2, h3⟩ := h1 i cl hl
      exact ⟨cs2, by rw [List.getElem?_append_left (by rw [h.len]; exact hlt)]; exact h2, h3⟩
    · rw [List.getElem?_append_right hge] at hl
      have h4 := (List.getElem?_eq_some_iff.1 hl).1
      simp at h4
      obtain rfl : i = m.length := by omega
      simp at hl
      subst hl
      exact ⟨cs, by rw [List.getElem?_append_right (by rw [h.len]; omega), h.len]; simp, hr.reads hst (fun p hp => hs p (List.mem_append_right _ hp))⟩
/-- A module of one's own. -/
def ModO (m : List Cl) (A : Option Addr) (cp : Nat) (L : List Ent) : Prop := ∃ css Lr Ls, Row 69 19 (.slice A m.length cp) css.flatten Lr ∧ ClsO m css Ls ∧ L = Lr ++ Ls
theorem ModO.nil : ModO [] none 0 [] := ⟨[], [], [], Row.nil, ClsO.nil, rfl⟩
theorem ModO.reads {w0 w : World} {S : List Nat} {L' L : List Ent} {m : List Cl} {A : Option Addr} {cp : Nat} (h : ModO m A cp L) (hst : St w0 S w L') (hs : ∀ p ∈ L, p ∈ L') : ModR w m A := by
  obtain ⟨css, Lr, Ls, h1, h2, rfl⟩ := h
  exact ⟨css, h2.len, row_rd h1 hst (fun p hp => hs p (by simp [hp])), h2.reads hst (fun p hp => hs p (by simp [hp]))⟩
theorem take_16 {r : List Int} (h : ¬ r.length < 16) : (r.take 16).length = 16 := by rw [List.length_take]; omega
theorem drop_cons {r : List Int} {n : Nat} (h : n < r.length) : r.drop n = r.getD n 0 :: r.drop (n + 1) := by
  rw [List.getD_eq_getElem?_getD, List.getElem?_eq_getElem h, List.drop_eq_getElem_cons h]; rfl
theorem pface_some {r r5 : List Int} {x : Int} (h : ¬ r.length < 16) (h2 : r.drop 16 = x :: r5) : pFace r = some (⟨r.take 16, x - 1⟩, r5) := by
  have hl := congrArg List.length h2
  rw [List.length_drop] at hl
  simp only [List.length_cons] at hl
  have h3 := drop_cons (r := r) (n := 16) (by omega)
  rw [h2] at h3
  injection h3 with h4 h5
  unfold pFace
  rw [if_neg (by omega), ← h4, ← h5]
theorem fcells_snoc (fs : List Face) (f : Face) : fcells (fs ++ [f]) = fcells fs ++ f.cells := by simp [fcells]
theorem icells_snoc (l : List Ins) (x : Ins) : icells (l ++ [x]) = icells l ++ x.cells := by simp [icells, ecells]
section
variable {id : List Int} {vf vm v : Value} {s n : Int}
theorem clCells_set (h : id.length = 16) (i : Nat) (v : Value) : (clCells id vf s vm).set (16 + i) v = gcells id ++ ([vf, .int .i64 s, vm] : List Value).set i v := by
  unfold clCells
  rw [List.set_append_right _ _ (by rw [gcells_length h]; omega), gcells_length h]
  congr 2
  omega
theorem clCells_setf (h : id.length = 16) : (clCells id vf s vm).set (0 + 16) v = clCells id v s vm := clCells_set h 0 v
theorem clCells_sets (h : id.length = 16) : (clCells id vf s vm).set (0 + 17) (.int .i64 n) = clCells id vf n vm := clCells_set h 1 _
theorem clCells_setm (h : id.length = 16) : (clCells id vf s vm).set (0 + 18) v = clCells id vf s v := clCells_set h 2 v
end
theorem i32_range (n : Int) : -9223372036854775808 ≤ i32 n ∧ i32 n ≤ 9223372036854775807 := by
  simp only [i32, IntKind.wrap, IntKind.signed, IntKind.bits]
  simp
  omega
theorem take4_d {r : List Int} (h : ¬ r.length < 6) : ((r.drop 2).take 4).length = 4 ∧ ∀ i, i < 4 → ((r.drop 2).take 4).getD i 0 = r.getD (2 + i) 0 := by
  refine ⟨by rw [List.length_take, List.length_drop]; omega, fun i hi => ?_⟩
  rw [List.getD_eq_getElem?_getD, List.getD_eq_getElem?_getD, List.getElem?_take, if_pos hi, List.getElem?_drop]
end Go.Proofs.Ytnebpklmbefmfaa

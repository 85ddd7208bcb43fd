/- wire.Decode's parts: the plain model, the reader, its closures. Condition: bytes. -/
import Derived.Test.YtnbgpgbbfjaomaaEnc
import Derived.Laws.BitsLemmas
set_option linter.unusedVariables false
set_option linter.unusedSimpArgs false
/- Plain: a script read from bytes, in two ways that agree; contracts of wire's reader's small and wide. Condition: bytes. -/
namespace Go.Proofs.Ytnbgpgbbfjaomaa
open Go Go.Abs Go.RowKit Go.Abs.Gra

/-- Where a reader is, and whether the bytes ended too early. -/
structure Rd where
  p : Nat
  sh : Bool
/-- Bytes that may come in. -/
def OkB (B : List Int) : Prop := B.length ≤ 1000000 ∧ ∀ i, i < B.length → 0 ≤ B.getD i default ∧ B.getD i default ≤ 255
def smF (B : List Int) (s : Rd) : Int × Rd := if s.p < B.length then (B.getD s.p default, ⟨s.p + 1, s.sh⟩) else (0, ⟨s.p, true⟩)
def widF (B : List Int) : Nat → Int → Rd → Int × Rd
  | 0, n, s => (n, s)
  | k + 1, n, s => widF B k (256 * n + (smF B s).1) (smF B s).2
def wdF (B : List Int) (s : Rd) : Int × Rd := widF B 4 0 s
def eachF {α : Type} (f : Rd → α × Rd) : Nat → Rd → List α × Rd
  | 0, s => ([], s)
  | k + 1, s => bif s.sh then ([], s) else ((f s).1 :: (eachF f k (f s).2).1, (eachF f k (f s).2).2)
def brkF {α : Type} (f : Rd → α × Rd) : Nat → Rd → List α × Rd
  | 0, s => ([], s)
  | k + 1, s => bif (f s).2.sh then ([(f s).1], (f s).2) else ((f s).1 :: (brkF f k (f s).2).1, (brkF f k (f s).2).2)
def lstF (B : List Int) (s : Rd) : List Int × Rd := eachF (smF B) (smF B s).1.toNat (smF B s).2
def opF (B : List Int) (s : Rd) : Opd × Rd :=
  (⟨(smF B s).1 % 4, (smF B (smF B s).2).1, decide ((smF B s).1 / 4 % 2 = 1), (smF B s).1 / 8, (smF B (smF B (smF B s).2).2).1⟩, (smF B (smF B (smF B s).2).2).2)
def rgF (B : List Int) (s : Rd) : Rg × Rd := (⟨(smF B s).1 / 16, (smF B s).1 % 16⟩, (smF B s).2)
/-- An instruction, behind its first three numbers, by such loops. -/
def insW (B : List Int) (l1 : (Rd → Opd × Rd) → Nat → Rd → List Opd × Rd) (l2 : (Rd → Rg × Rd) → Nat → Rd → List Rg × Rd) (s : Rd) : Ins × Rd :=
  (⟨(smF B s).1, (l1 (opF B) (smF B (smF B s).2).1.toNat (smF B (smF B (smF B s).2).2).2).1,
    (l2 (rgF B) (smF B (smF B (smF B s).2).2).1.toNat (l1 (opF B) (smF B (smF B s).2).1.toNat (smF B (smF B (smF B s).2).2).2).2).1⟩,
   (l2 (rgF B) (smF B (smF B (smF B s).2).2).1.toNat (l1 (opF B) (smF B (smF B s).2).1.toNat (smF B (smF B (smF B s).2).2).2).2).2)
def insM (B : List Int) : Rd → Ins × Rd := insW B brkF brkF
def insR (B : List Int) : Rd → Ins × Rd := insW B eachF eachF
def edF (B : List Int) (s : Rd) : Edg × Rd := (⟨(smF B s).1, (lstF B (smF B s).2).1⟩, (lstF B (smF B s).2).2)
/-- So many things, behind how many. -/
def manF {α : Type} (B : List Int) (f : Rd → α × Rd) (s : Rd) : List α × Rd := eachF f (smF B s).1.toNat (smF B s).2
def bkF (B : List Int) (ins : Rd → Ins × Rd) (s : Rd) : Blk × Rd :=
  (⟨(lstF B s).1, (manF B ins (lstF B s).2).1, (manF B (edF B) (manF B ins (lstF B s).2).2).1⟩, (manF B (edF B) (manF B ins (lstF B s).2).2).2)
/-- A reader behind the head: two numbers, and two wide ones. -/
def r1 (B : List Int) : Rd := (smF B ⟨0, false⟩).2
def r2 (B : List Int) : Rd := (smF B (r1 B)).2
def r3 (B : List Int) : Rd := (wdF B (r2 B)).2
def r4 (B : List Int) : Rd := (wdF B (r3 B)).2
def r5 (B : List Int) : Rd := (manF B (wdF B) (r4 B)).2
def r6 (B : List Int) : Rd := (lstF B (r5 B)).2
def scF2 (B : List Int) (ins : Rd → Ins × Rd) : Scr × Rd :=
  (⟨⟨(smF B ⟨0, false⟩).1, (smF B (r1 B)).1⟩, ⟨(lstF B (r5 B)).1, (manF B (bkF B ins) (r6 B)).1⟩, (wdF B (r2 B)).1, (wdF B (r3 B)).1, (manF B (wdF B) (r4 B)).1⟩, (manF B (bkF B ins) (r6 B)).2)

/-- Where the bytes have ended too early, a reader is at their end. -/
def Stk (B : List Int) (s : Rd) : Prop := s.p ≤ B.length ∧ (s.sh = true → s.p = B.length)
theorem smF_stk {B : List Int} {s : Rd} (h : Stk B s) : Stk B (smF B s).2 ∧ (s.sh = true → (smF B s).2 = s) := by
  unfold smF
  split
  · rename_i hp
    refine ⟨⟨by show s.p + 1 ≤ _; omega, fun hs => ?_⟩, fun hs => absurd (h.2 hs) (by omega)⟩
    have := h.2 hs; omega
  · refine ⟨⟨h.1, fun _ => by have := h.1; show s.p = _; omega⟩, fun hs => ?_⟩
    cases s; simp_all
/-- Such a thing reads on from where it is; at the end it stays. -/
structure Rdr {α : Type} (B : List Int) (f : Rd → α × Rd) : Prop where
  stk : ∀ s, Stk B s → Stk B (f s).2
  end_ : ∀ s, Stk B s → s.sh = true → (f s).2 = s
theorem smF_rdr (B : List Int) : Rdr B (smF B) := ⟨fun s h => (smF_stk h).1, fun s h => (smF_stk h).2⟩
theorem eachF_rdr {α : Type} {B : List Int} {f : Rd → α × Rd} (h : Rdr B f) : ∀ k, Rdr B (eachF f k)
  | 0 => ⟨fun s hs => hs, fun s _ _ => rfl⟩
  | k + 1 => by
    have ih := eachF_rdr h k
    refine ⟨fun s hs => ?_, fun s hs he => ?_⟩
    · unfold eachF
      cases s.sh
      · exact ih.stk _ (h.stk _ hs)
      · exact hs
    · unfold eachF; rw [he]; rfl
theorem brkF_rdr {α : Type} {B : List Int} {f : Rd → α × Rd} (h : Rdr B f) : ∀ k, Rdr B (brkF f k)
  | 0 => ⟨fun s hs => hs, fun s _ _ => rfl⟩
  | k + 1 => by
    have ih := brkF_rdr h k
    refine ⟨fun s hs => ?_, fun s hs he => ?_⟩
    · unfold brkF
      cases (f s).2.sh
      · exact ih.stk _ (h.stk _ hs)
      · exact h.stk _ hs
    · have := h.end_ s hs he
      unfold brkF; rw [this, he]; rfl
theorem Rdr.then_ {α β γ : Type} {B : List Int} {f : Rd → α × Rd} {g : Rd → β × Rd} {q : Rd → γ × Rd} (hf : Rdr B f) (hg : Rdr B g) (e : ∀ s, (q s).2 = (g (f s).2).2) : Rdr B q :=
  ⟨fun s hs => by rw [e]; exact hg.stk _ (hf.stk _ hs), fun s hs he => by rw [e, hf.end_ s hs he, hg.end_ s hs he]⟩
theorem widF_rdr (B : List Int) : ∀ k n, Rdr B (widF B k n)
  | 0, n => ⟨fun s hs => hs, fun s _ _ => rfl⟩
  | k + 1, n => ⟨fun s hs => (widF_rdr B k _).stk _ ((smF_rdr B).stk _ hs), fun s hs he => by
      show (widF B k _ (smF B s).2).2 = s
      rw [(smF_rdr B).end_ s hs he, (widF_rdr B k _).end_ s hs he]⟩
theorem wdF_rdr (B : List Int) : Rdr B (wdF B) := widF_rdr B 4 0
theorem manF_rdr {α : Type} {B : List Int} {f : Rd → α × Rd} (h : Rdr B f) : Rdr B (manF B f) :=
  ⟨fun s hs => (eachF_rdr h _).stk _ ((smF_rdr B).stk _ hs), fun s hs he => by
    unfold manF
    rw [(smF_rdr B).end_ s hs he, (eachF_rdr h _).end_ s hs he]⟩
theorem lstF_rdr (B : List Int) : Rdr B (lstF B) := manF_rdr (smF_rdr B)
theorem opF_rdr (B : List Int) : Rdr B (opF B) := Rdr.then_ (smF_rdr B) (Rdr.then_ (smF_rdr B) (smF_rdr B) (q := fun s => smF B (smF B s).2) fun s => rfl) fun s => rfl
theorem rgF_rdr (B : List Int) : Rdr B (rgF B) := ⟨fun s hs => (smF_rdr B).stk s hs, fun s hs => (smF_rdr B).end_ s hs⟩
/-- Two readers that are at the same place behind each thing, and read the same where the bytes have not ended too early. -/
def Alike {α : Type} (B : List Int) (f g : Rd → α × Rd) : Prop := ∀ s, Stk B s → (f s).2 = (g s).2 ∧ ((f s).2.sh = false → (f s).1 = (g s).1)
theorem end_sh {α : Type} {B : List Int} {f : Rd → α × Rd} (h : Rdr B f) {s : Rd} (hs : Stk B s) (he : (f s).2.sh = false) : s.sh = false := by
  cases hq : s.sh with
  | false => rfl
  | true => rw [h.end_ s hs hq, hq] at he; cases he
theorem alike_refl {α : Type} {B : List Int} {f : Rd → α × Rd} : Alike B f f := fun s _ => ⟨rfl, fun _ => rfl⟩
theorem brk_each {α : Type} {B : List Int} {f : Rd → α × Rd} (h : Rdr B f) : ∀ k, Alike B (brkF f k) (eachF f k)
  | 0, s, hs => ⟨rfl, fun _ => rfl⟩
  | k + 1, s, hs => by
    cases hq : s.sh with
    | true =>
      have e := h.end_ s hs hq
      unfold brkF eachF
      rw [e, hq]
      exact ⟨rfl, fun h => by have h : s.sh = false := h; rw [hq] at h; cases h⟩
    | false =>
      unfold brkF eachF
      rw [hq]
      cases hf : (f s).2.sh with
      | true =>
        have h2 : eachF f k (f s).2 = ([], (f s).2) := by
          cases k with
          | zero => rfl
          | succ k => unfold eachF; rw [hf]; rfl
        rw [h2]
        exact ⟨rfl, fun _ => rfl⟩
      | false =>
        have ih := brk_each h k (f s).2 (h.stk _ hs)
        exact ⟨ih.1, fun hh => by rw [show (brkF f k (f s).2).1 = (eachF f k (f s).2).1 from ih.2 hh]; rfl⟩
theorem each_alike {α : Type} {B : List Int} {f g : Rd → α × Rd} (hf : Rdr B f) (h : Alike B f g) : ∀ k, Alike B (eachF f k) (eachF g k)
  | 0, s, hs => ⟨rfl, fun _ => rfl⟩
  | k + 1, s, hs => by
    unfold eachF
    cases hq : s.sh with
    | true => exact ⟨rfl, fun _ => rfl⟩
    | false =>
      have h1 := h s hs
      have ih := each_alike hf h k (f s).2 (hf.stk _ hs)
      refine ⟨?_, fun he => ?_⟩
      · show (eachF f k (f s).2).2 = (eachF g k (g s).2).2
        rw [ih.1, h1.1]
      · have he : (eachF f k (f s).2).2.sh = false := he
        have h3 := end_sh (eachF_rdr hf k) (hf.stk _ hs) he
        show (f s).1 :: (eachF f k (f s).2).1 = (g s).1 :: (eachF g k (g s).2).1
        rw [h1.2 h3, ih.2 he, h1.1]
theorem cnt_alike {α : Type} {B : List Int} {f g : Rd → α × Rd} (hf : Rdr B f) (h : Alike B f g) : Alike B (manF B f) (manF B g) :=
  fun s hs => each_alike hf h _ _ ((smF_rdr B).stk _ hs)
theorem insW_rdr {B : List Int} {l1 : (Rd → Opd × Rd) → Nat → Rd → List Opd × Rd} {l2 : (Rd → Rg × Rd) → Nat → Rd → List Rg × Rd} (h1 : ∀ k, Rdr B (l1 (opF B) k)) (h2 : ∀ k, Rdr B (l2 (rgF B) k)) : Rdr B (insW B l1 l2) := by
  refine ⟨fun s hs => ?_, fun s hs he => ?_⟩
  · exact (h2 _).stk _ ((h1 _).stk _ ((smF_rdr B).stk _ ((smF_rdr B).stk _ ((smF_rdr B).stk _ hs))))
  · unfold insW
    simp only
    rw [(smF_rdr B).end_ s hs he, (smF_rdr B).end_ s hs he, (smF_rdr B).end_ s hs he, (h1 _).end_ s hs he, (h2 _).end_ s hs he]
theorem insM_rdr (B : List Int) : Rdr B (insM B) := insW_rdr (fun k => brkF_rdr (opF_rdr B) k) (fun k => brkF_rdr (rgF_rdr B) k)
theorem insR_rdr (B : List Int) : Rdr B (insR B) := insW_rdr (fun k => eachF_rdr (opF_rdr B) k) (fun k => eachF_rdr (rgF_rdr B) k)
theorem ins_alike (B : List Int) : Alike B (insM B) (insR B) := by
  intro s hs
  have q := (smF_rdr B).stk _ ((smF_rdr B).stk _ ((smF_rdr B).stk _ hs))
  have a1 := brk_each (opF_rdr B) (smF B (smF B s).2).1.toNat _ q
  have q2 := (brkF_rdr (opF_rdr B) (smF B (smF B s).2).1.toNat).stk _ q
  have a2 := brk_each (rgF_rdr B) (smF B (smF B (smF B s).2).2).1.toNat _ q2
  unfold insM insR insW
  refine ⟨?_, fun he => ?_⟩
  · show (brkF (rgF B) _ (brkF (opF B) _ _).2).2 = (eachF (rgF B) _ (eachF (opF B) _ _).2).2
    rw [a2.1, a1.1]
  · have he : (brkF (rgF B) (smF B (smF B (smF B s).2).2).1.toNat (brkF (opF B) (smF B (smF B s).2).1.toNat (smF B (smF B (smF B s).2).2).2).2).2.sh = false := he
    have h3 := end_sh (brkF_rdr (rgF_rdr B) _) q2 he
    show Ins.mk _ _ _ = Ins.mk _ _ _
    rw [a2.2 he, a1.2 h3, a1.1]
theorem edF_rdr (B : List Int) : Rdr B (edF B) := Rdr.then_ (smF_rdr B) (lstF_rdr B) fun s => rfl
theorem bkF_rdr {B : List Int} {ins : Rd → Ins × Rd} (h : Rdr B ins) : Rdr B (bkF B ins) :=
  Rdr.then_ (lstF_rdr B) (Rdr.then_ (manF_rdr h) (manF_rdr (edF_rdr B)) (q := fun s => manF B (edF B) (manF B ins s).2) fun s => rfl) fun s => rfl
theorem bk_alike {B : List Int} {f g : Rd → Ins × Rd} (hf : Rdr B f) (h : Alike B f g) : Alike B (bkF B f) (bkF B g) := by
  intro s hs
  have q := (lstF_rdr B).stk _ hs
  have a := cnt_alike hf h _ q
  unfold bkF
  refine ⟨?_, fun he => ?_⟩
  · show (manF B (edF B) (manF B f (lstF B s).2).2).2 = (manF B (edF B) (manF B g (lstF B s).2).2).2
    rw [a.1]
  · have he : (manF B (edF B) (manF B f (lstF B s).2).2).2.sh = false := he
    have h3 := end_sh (manF_rdr (edF_rdr B)) ((manF_rdr hf).stk _ q) he
    show Blk.mk _ _ _ = Blk.mk _ _ _
    rw [a.2 h3, a.1]
theorem stk0 (B : List Int) : Stk B ⟨0, false⟩ := ⟨Nat.zero_le _, fun h => by cases h⟩
theorem stk6 (B : List Int) : Stk B (r6 B) :=
  (lstF_rdr B).stk _ ((manF_rdr (wdF_rdr B)).stk _ ((wdF_rdr B).stk _ ((wdF_rdr B).stk _ ((smF_rdr B).stk _ ((smF_rdr B).stk _ (stk0 B))))))
theorem sc_alike (B : List Int) : (scF2 B (insM B)).2 = (scF2 B (insR B)).2 ∧ ((scF2 B (insM B)).2.sh = false → (scF2 B (insM B)).1 = (scF2 B (insR B)).1) := by
  have a := cnt_alike (bkF_rdr (insM_rdr B)) (bk_alike (insM_rdr B) (ins_alike B)) _ (stk6 B)
  refine ⟨a.1, fun he => ?_⟩
  show Scr.mk _ _ _ _ _ = Scr.mk _ _ _ _ _
  rw [a.2 he]
theorem smF_rng {B : List Int} (hB : OkB B) (s : Rd) : 0 ≤ (smF B s).1 ∧ (smF B s).1 ≤ 255 := by
  unfold smF
  split
  · rename_i h; exact hB.2 _ h
  · show (0 : Int) ≤ 0 ∧ (0 : Int) ≤ 255
    decide
theorem wdF_eq (B : List Int) (s : Rd) : (wdF B s).1 = 256 * (256 * (256 * (256 * 0 + (smF B s).1) + (smF B (smF B s).2).1) + (smF B (smF B (smF B s).2).2).1) + (smF B (smF B (smF B (smF B s).2).2).2).1 := rfl
theorem wdF_rng {B : List Int} (hB : OkB B) (s : Rd) : 0 ≤ (wdF B s).1 ∧ (wdF B s).1 ≤ 4294967295 := by
  rw [wdF_eq]
  have a := smF_rng hB s
  have b := smF_rng hB (smF B s).2
  have c := smF_rng hB (smF B (smF B s).2).2
  have d := smF_rng hB (smF B (smF B (smF B s).2).2).2
  omega
theorem eachF_all {α : Type} {f : Rd → α × Rd} {p : α → Prop} (h : ∀ s, p (f s).1) : ∀ k s, (∀ a ∈ (eachF f k s).1, p a) ∧ (eachF f k s).1.length ≤ k
  | 0, s => ⟨fun a ha => absurd ha List.not_mem_nil, Nat.le_refl _⟩
  | k + 1, s => by
    unfold eachF
    cases s.sh with
    | true => exact ⟨fun a ha => absurd ha List.not_mem_nil, Nat.zero_le _⟩
    | false =>
      have ih := eachF_all h k (f s).2
      refine ⟨fun a ha => ?_, Nat.succ_le_succ ih.2⟩
      rcases List.mem_cons.1 ha with e | ha
      · rw [e]; exact h s
      · exact ih.1 a ha
theorem manF_all {α : Type} {B : List Int} (hB : OkB B) {f : Rd → α × Rd} {p : α → Prop} (h : ∀ s, p (f s).1) (s : Rd) : (∀ a ∈ (manF B f s).1, p a) ∧ (manF B f s).1.length ≤ 255 := by
  have := eachF_all h (smF B s).1.toNat (smF B s).2
  have := smF_rng hB s
  exact ⟨by apply And.left; assumption, by unfold manF; omega⟩
theorem brkF_len {α : Type} {f : Rd → α × Rd} : ∀ k s, (brkF f k s).1.length ≤ k
  | 0, s => Nat.le_refl _
  | k + 1, s => by
    unfold brkF
    cases (f s).2.sh with
    | true => exact Nat.succ_le_succ (Nat.zero_le _)
    | false => exact Nat.succ_le_succ (brkF_len k (f s).2)
theorem in64_byte {n : Int} (h : 0 ≤ n ∧ n ≤ 4294967295) : In64 n := by unfold In64; omega
theorem lok_of {α : Type} {by_ : Nat} (hby : by_ ≤ 100) {p : α → Prop} {l : List α} (h : (∀ a ∈ l, p a) ∧ l.length ≤ 255) : LOk by_ p l :=
  ⟨by have : l.length * by_ ≤ 255 * 100 := Nat.mul_le_mul h.2 hby; omega, h.1⟩
theorem sc_ok {B : List Int} (hB : OkB B) : Scr.ok (scF2 B (insR B)).1 := by
  have sm := fun s => in64_byte ⟨(smF_rng hB s).1, Int.le_trans (smF_rng hB s).2 (by decide)⟩
  have wd := fun s => in64_byte (wdF_rng hB s)
  have ls : ∀ s, LOk 8 In64 (lstF B s).1 := fun s => lok_of (by decide) (manF_all hB (f := smF B) sm s)
  have op : ∀ s, Opd.ok (opF B s).1 := fun s => by
    have h := smF_rng hB s
    refine ⟨?_, sm _, ?_, sm _⟩
    · show In64 ((smF B s).1 % 4); unfold In64; omega
    · show In64 ((smF B s).1 / 8); unfold In64; omega
  have rg : ∀ s, Rg.ok (rgF B s).1 := fun s => by
    have h := smF_rng hB s
    refine ⟨?_, ?_⟩
    · show In64 ((smF B s).1 / 16); unfold In64; omega
    · show In64 ((smF B s).1 % 16); unfold In64; omega
  have ins : ∀ s, Ins.ok (insR B s).1 := fun s => by
    refine ⟨sm _, ?_, ?_⟩
    · have h1 := eachF_all (p := Opd.ok) op (smF B (smF B s).2).1.toNat (smF B (smF B (smF B s).2).2).2
      have h2 := smF_rng hB (smF B s).2
      exact lok_of (by decide) ⟨h1.1, by have := h1.2; show (eachF _ _ _).1.length ≤ 255; omega⟩
    · have h1 := eachF_all (p := Rg.ok) rg (smF B (smF B (smF B s).2).2).1.toNat (eachF (opF B) (smF B (smF B s).2).1.toNat (smF B (smF B (smF B s).2).2).2).2
      have h2 := smF_rng hB (smF B (smF B s).2).2
      exact lok_of (by decide) ⟨h1.1, by have := h1.2; show (eachF _ _ _).1.length ≤ 255; omega⟩
  have ed : ∀ s, Edg.ok (edF B s).1 := fun s => ⟨sm _, ls _⟩
  have bk : ∀ s, Blk.ok (bkF B (insR B) s).1 := fun s => ⟨ls _, lok_of (by decide) (manF_all hB ins _), lok_of (by decide) (manF_all hB ed _)⟩
  exact ⟨⟨sm _, sm _⟩, ⟨ls _, lok_of (by decide) (manF_all hB bk _)⟩, wd _, wd _, lok_of (by decide) (manF_all hB wd _)⟩
theorem and3 {n : Int} (h : 0 ≤ n ∧ n ≤ 255) : bits .and .i64 n 3 = n % 4 := by
  obtain ⟨k, rfl⟩ : ∃ k : Nat, n = (k : Int) := ⟨n.toNat, by omega⟩
  exact (by decide +kernel : ∀ k : Fin 256, bits .and .i64 ((k.val : Nat) : Int) 3 = ((k.val : Nat) : Int) % 4) ⟨k, by omega⟩
theorem and15 {n : Int} (h : 0 ≤ n ∧ n ≤ 255) : bits .and .i64 n 15 = n % 16 := by
  obtain ⟨k, rfl⟩ : ∃ k : Nat, n = (k : Int) := ⟨n.toNat, by omega⟩
  exact (by decide +kernel : ∀ k : Fin 256, bits .and .i64 ((k.val : Nat) : Int) 15 = ((k.val : Nat) : Int) % 16) ⟨k, by omega⟩
theorem and4 {n : Int} (h : 0 ≤ n ∧ n ≤ 255) : (bits .and .i64 n 4 != 0) = decide (n / 4 % 2 = 1) := by
  obtain ⟨k, rfl⟩ : ∃ k : Nat, n = (k : Int) := ⟨n.toNat, by omega⟩
  exact (by decide +kernel : ∀ k : Fin 256, (bits .and .i64 ((k.val : Nat) : Int) 4 != 0) = decide (((k.val : Nat) : Int) / 4 % 2 = 1)) ⟨k, by omega⟩
theorem shl_or {n b : Int} (hn : 0 ≤ n ∧ n < 16777216) (hb : 0 ≤ b ∧ b ≤ 255) : bits .or .i64 (IntKind.i64.wrap (n * 2 ^ min (8 : Int).toNat IntKind.i64.bits)) b = 256 * n + b := by
  have e : n * 2 ^ min (8 : Int).toNat IntKind.i64.bits = n * 256 := rfl
  have p40 : (2 : Int) ^ 40 = 1099511627776 := by decide
  have p8 : (2 : Int) ^ 8 = 256 := by decide
  rw [e, wrap_in (by omega) (by omega)]
  rw [bits_join .i64 40 (by decide) (fun m h1 h2 => wrap_in (by omega) (by rw [p40] at h2; omega)) 8 (n * 256) b (by omega) (by rw [p8]; omega) (by rw [p40]; omega) hb.1 (by rw [p8]; omega) (by rw [p40]; omega)]
  omega
end Go.Proofs.Ytnbgpgbbfjaomaa

/- Contracts of wire's reader's small and wide. Condition: bytes. -/
namespace Go.Proofs.Ytnbgpgbbfjaomaa
open Go Go.Abs Go.RowKit Go.Abs.Gra

@[reducible] def rdC (D : List Int) (s : Rd) : HO := .cells [.ro 1 (D.length - s.p) (fun j => byC (D.getD (s.p + j) default)), .bool s.sh]
theorem rep_row2 {F : Nat → Prop} {w : World} {τ : Nm → Option Value} {sz n n' : Nat} {f g : Nat → List AV} {v : Value} (hn : n = n') (he : ∀ i, i < n → f i = g i) (h : Rep F w τ (.ro sz n f) v) : Rep F w τ (.ro sz n' g) v := by
  subst hn; exact rep_row he h
set_option maxHeartbeats 1000000 in
theorem m_rSmall {D : List Int} (hB : OkB D) (s : Rd) (hs : s.p ≤ D.length) :
    ACallM B.P 22 ⟨[.obj 1001 0], [(1001, rdC D s)], .i64 (smF D s).1, [(1001, rdC D (smF D s).2)]⟩ := by
  have hBl := hB.1
  by_cases hp : s.p < D.length
  · have e : smF D s = (D.getD s.p default, ⟨s.p + 1, s.sh⟩) := by unfold smF; rw [if_pos hp]
    have hv := hB.2 s.p hp
    rw [e]
    refine ACallM.enter B _ _ Try.func22 rfl rfl Try.ntmps22 Try.results22 rfl ?_ fun hreal => ?_
    · repeat' (first | exact rfl | exact trivial | refine And.intro ?_ ?_)
    clear hreal
    repeat (first | refine AWp.seq ?_ | refine AWp.block ?_ | refine AWp.skip ?_)
    refine AWp.region ?_
    intro _
    repeat (first | refine AWp.seq ?_ | refine AWp.block ?_ | refine AWp.skip ?_)
    refine AWp.region ?_
    intro _
    repeat (first | refine AWp.seq ?_ | refine AWp.block ?_ | refine AWp.skip ?_)
    refine AWp.cond (And.intro (fun h1 => ?_) (fun h1 => ?_))
    · exfalso
      have h1 : (((D.length - s.p : Nat) : Int) == 0) = true := h1
      have : ((D.length - s.p : Nat) : Int) = 0 := by simpa using h1
      omega
    repeat (first | refine AWp.seq ?_ | refine AWp.block ?_ | refine AWp.skip ?_)
    refine AWp.region ?_
    refine And.intro (fun _ => And.intro (by decide) (by omega)) ?_
    intro _
    repeat (first | refine AWp.seq ?_ | refine AWp.block ?_ | refine AWp.skip ?_)
    refine AWp.region ?_
    refine And.intro (fun _ => And.intro (by decide) (And.intro (by omega) (by omega))) ?_
    intro _
    refine AWp.recells 1001 [.ro 1 (D.length - (s.p + 1)) (fun j => byC (D.getD (s.p + 1 + j) default)), .bool s.sh] rfl rfl (And.intro (fun F w τ v h => rep_row2 (by omega) (fun i hi => ?_) h) (And.intro (fun F w τ v h => h) trivial)) ?_
    · show byC (D.getD (s.p + (1 + i)) default) = byC (D.getD (s.p + 1 + i) default)
      rw [Nat.add_assoc]
    repeat (first | refine AWp.seq ?_ | refine AWp.block ?_ | refine AWp.skip ?_)
    refine AWp.region ?_
    intro _
    refine AWp.ret ⟨Or.inl rfl, ?_⟩
    intro _
    refine And.intro (congrArg AV.i64 (show IntKind.i64.wrap (D.getD s.p default) = D.getD s.p default from wrap_in (by omega) (by omega))) (And.intro trivial (And.intro rfl (And.intro ?_ trivial)))
    all_goals repeat' (first | exact rfl | exact trivial | refine And.intro ?_ ?_)
  · have e : smF D s = (0, ⟨s.p, true⟩) := by unfold smF; rw [if_neg hp]
    rw [e]
    refine ACallM.enter B _ _ Try.func22 rfl rfl Try.ntmps22 Try.results22 rfl ?_ fun hreal => ?_
    · repeat' (first | exact rfl | exact trivial | refine And.intro ?_ ?_)
    clear hreal
    repeat (first | refine AWp.seq ?_ | refine AWp.block ?_ | refine AWp.skip ?_)
    refine AWp.region ?_
    intro _
    repeat (first | refine AWp.seq ?_ | refine AWp.block ?_ | refine AWp.skip ?_)
    refine AWp.region ?_
    intro _
    repeat (first | refine AWp.seq ?_ | refine AWp.block ?_ | refine AWp.skip ?_)
    refine AWp.cond (And.intro (fun h1 => ?_) (fun h1 => ?_))
    · repeat (first | refine AWp.seq ?_ | refine AWp.block ?_ | refine AWp.skip ?_)
      refine AWp.region ?_
      intro _
      repeat (first | refine AWp.seq ?_ | refine AWp.block ?_ | refine AWp.skip ?_)
      refine AWp.region ?_
      intro _
      refine AWp.ret ⟨Or.inl rfl, ?_⟩
      intro _
      refine And.intro rfl (And.intro trivial (And.intro rfl (And.intro ?_ trivial)))
      all_goals repeat' (first | exact rfl | exact trivial | refine And.intro ?_ ?_)
    · exfalso
      have h1 : (((D.length - s.p : Nat) : Int) == 0) = false := h1
      have e0 : D.length - s.p = 0 := by omega
      rw [e0] at h1
      cases h1
set_option maxHeartbeats 1000000 in
theorem m_rWide {D : List Int} (hB : OkB D) (s : Rd) (hs : Stk D s) :
    ACallM B.P 23 ⟨[.obj 1001 0], [(1001, rdC D s)], .i64 (wdF D s).1, [(1001, rdC D (wdF D s).2)]⟩ := by
  refine ACallM.enter B _ _ Try.func23 rfl rfl Try.ntmps23 Try.results23 rfl ?_ fun hreal => ?_
  · repeat' (first | exact rfl | exact trivial | refine And.intro ?_ ?_)
  clear hreal
  repeat (first | refine AWp.seq ?_ | refine AWp.block ?_ | refine AWp.skip ?_)
  refine AWp.region ?_
  intro _
  repeat (first | refine AWp.seq ?_ | refine AWp.block ?_ | refine AWp.skip ?_)
  refine AWp.region ?_
  intro _
  repeat (first | refine AWp.seq ?_ | refine AWp.block ?_ | refine AWp.skip ?_)
  refine AWp.region ?_
  intro _
  repeat (first | refine AWp.seq ?_ | refine AWp.block ?_ | refine AWp.skip ?_)
  refine AWp.loop (fun q : (Nat × Int) × Rd => ⟨[(0, .obj 1001 0), (3, .i64 q.1.2), (4, .i64 ((4 : Int) - q.1.1))], [(1001, rdC D q.2)]⟩) (fun q => Stk D q.2 ∧ 0 ≤ q.1.2 ∧ (q.1.1 = 4 ∧ q.1.2 = 0 ∨ q.1.1 = 3 ∧ q.1.2 < 256 ∨ q.1.1 = 2 ∧ q.1.2 < 65536 ∨ q.1.1 = 1 ∧ q.1.2 < 16777216 ∨ q.1.1 = 0) ∧ widF D q.1.1 q.1.2 q.2 = wdF D s) (fun q => q.1.1) ((4, 0), s) ⟨hs, Int.le_refl _, Or.inl ⟨rfl, rfl⟩, rfl⟩ ?_ ?_
  · repeat' (first | exact rfl | exact trivial | refine And.intro ?_ ?_)
  rintro ⟨⟨k, n⟩, t⟩ ⟨ht, hn0, hn, hR⟩
  simp only at ht hn0 hn hR
  have hb := smF_rng hB t
  repeat (first | refine AWp.seq ?_ | refine AWp.block ?_ | refine AWp.skip ?_)
  refine AWp.region ?_
  intro _
  repeat (first | refine AWp.seq ?_ | refine AWp.block ?_ | refine AWp.skip ?_)
  refine AWp.cond (And.intro (fun h1 => ?_) (fun h1 => ?_))
  · have h1' : (4 : Int) - (k : Int) < 4 := of_decide_eq_true h1
    obtain ⟨k, rfl⟩ : ∃ q, k = q + 1 := ⟨k - 1, by omega⟩
    have hor := shl_or (n := n) (b := (smF D t).1) ⟨hn0, by omega⟩ hb
    have hw : IntKind.i64.wrap ((4 : Int) - ((k + 1 : Nat) : Int) + 1) = (4 : Int) - (k : Int) := by rw [wrap_in (by omega) (by omega)]; omega
    repeat (first | refine AWp.seq ?_ | refine AWp.block ?_ | refine AWp.skip ?_)
    refine AWp.region ?_
    repeat' (first | refine And.intro ?_ ?_ | refine CallX.lend (m_rSmall hB t ht.1) [(1001, 1001)] rfl (And.intro rfl trivial) rfl ?_)
    all_goals first | exact (fun _ => by decide) | decide | skip
    intro _
    repeat (first | refine AWp.seq ?_ | refine AWp.block ?_ | refine AWp.skip ?_)
    refine AWp.region ?_
    intro _
    refine round_end ((k, 256 * n + (smF D t).1), (smF D t).2) ⟨(smF_rdr D).stk t ht, by show 0 ≤ 256 * n + (smF D t).1; omega, by show k = 4 ∧ 256 * n + (smF D t).1 = 0 ∨ k = 3 ∧ 256 * n + (smF D t).1 < 256 ∨ k = 2 ∧ 256 * n + (smF D t).1 < 65536 ∨ k = 1 ∧ 256 * n + (smF D t).1 < 16777216 ∨ k = 0; omega, hR⟩ ?_ (by show k < k + 1; omega)
    refine And.intro ?_ (And.intro rfl (And.intro ?_ trivial))
    all_goals repeat' (first | exact rfl | exact trivial | exact congrArg (fun z => some (AV.i64 z)) hor | exact congrArg (fun z => some (AV.i64 z)) hw | refine And.intro ?_ ?_)
  · have h1' : ¬ (4 : Int) - (k : Int) < 4 := of_decide_eq_false h1
    obtain rfl : k = 0 := by omega
    have hR : (n, t) = wdF D s := hR
    refine AWp.exit ?_
    repeat (first | refine AWp.seq ?_ | refine AWp.block ?_ | refine AWp.skip ?_)
    refine AWp.region ?_
    intro _
    refine AWp.ret ⟨Or.inl rfl, ?_⟩
    intro _
    rw [← hR]
    refine And.intro rfl (And.intro trivial (And.intro rfl (And.intro ?_ trivial)))
    all_goals repeat' (first | exact rfl | exact trivial | refine And.intro ?_ ?_)
end Go.Proofs.Ytnbgpgbbfjaomaa

/- Contracts of wire's reader's closures and of each over them; list, instr, block. Condition: bytes. -/
namespace Go.Proofs.Ytnbgpgbbfjaomaa
open Go Go.Abs Go.RowKit Go.Abs.Gra

theorem appL_row {α : Type} [Inhabited α] {enc : α → List AV} {A : List α} {v : α} {i : Nat} (hi : i < A.length + 1) : enc ((A ++ [v]).getD i default) = if i < A.length then enc (A.getD i default) else ([enc v].getD (i - A.length) []) := by
  by_cases h : i < A.length
  · rw [if_pos h, List.getD_eq_getElem?_getD, List.getD_eq_getElem?_getD, List.getElem?_append_left h]
  · have e : i = A.length := by omega
    subst e
    rw [if_neg h, Nat.sub_self, List.getD_eq_getElem?_getD]; simp
@[reducible] def rowL (α : Type) [Inhabited α] (t sz : Nat) (enc : α → List AV) (L : List α) : HO := .row t sz L.length (fun i => enc (L.getD i default))
@[reducible] def ptrC (r : Nat) : HO := .cells [.obj ⟨r, []⟩ 0]
theorem eachF_stop {α : Type} {f : Rd → α × Rd} {k : Nat} {s : Rd} (h : s.sh = true) : eachF f k s = ([], s) := by
  cases k with
  | zero => rfl
  | succ k => unfold eachF; rw [h]; rfl
theorem eachF_go {α : Type} {f : Rd → α × Rd} {k : Nat} {s : Rd} (h : s.sh = false) : eachF f (k + 1) s = ((f s).1 :: (eachF f k (f s).2).1, (eachF f k (f s).2).2) := by
  show (bif s.sh then _ else _) = _
  rw [h]; rfl

set_option maxHeartbeats 2000000 in
theorem m_clList {D : List Int} (hB : OkB D)  (s : Rd) (hs : Stk D s) (A : List Int) (hA : A.length < 255) :
    ACallM B.P 59 ⟨[.obj 1004 0, .obj 1005 0], [(1001, rdC D s), (1005, ptrC 1001), (1004, .cells [.sl ⟨1006, []⟩ A.length]), (1006, rowL Int 3 1 intC A)], .tup [], [(1001, rdC D ((smF D) s).2), (1005, ptrC 1001), (1004, .cells [.sl ⟨6, []⟩ (A ++ [((smF D) s).1]).length]), (6, rowL Int 3 1 intC (A ++ [((smF D) s).1]))]⟩ := by
  have hAl : (A ++ [((smF D) s).1]).length = A.length + 1 := List.length_append
  refine ACallM.enter B _ _ Try.func59 rfl rfl Try.ntmps59 Try.results59 rfl ?_ fun hreal => ?_
  · repeat' (first | exact rfl | exact trivial | refine And.intro ?_ ?_)
  clear hreal
  repeat (first | refine AWp.seq ?_ | refine AWp.block ?_ | refine AWp.skip ?_)
  refine AWp.quietFirst (.c 0 true (.c 1 true (.c 2 true (.c 3 true (.c 4 true (.c 5 true .fin .no) .no) .no) .no) .no) (.c 1 true (.c 0 true (.c 2 true (.c 3 true (.c 4 true (.c 5 true .fin .no) .no) .no) .no) (.c 2 true (.c 0 true (.c 3 true (.c 4 true (.c 5 true .fin .no) .no) .no) (.c 3 true (.c 0 true (.c 4 true (.c 5 true .fin .no) .no) .no) .no)) .no)) .no)) [] [] mixed (by kernel_rfl) ?_
  repeat' (first | exact trivial | refine And.intro ?_ ?_ | refine CallX.lend (m_rSmall hB s hs.1) [(1001, 1001)] rfl (And.intro rfl trivial) rfl ?_)
  all_goals first | exact Nat.le_refl _ | exact rfl | (intro i hi; have e : i = 0 := (by omega); subst e; rfl) | omega | skip
  all_goals
    intro _
    refine ⟨Or.inr rfl, ?_⟩
    intro _
    refine And.intro rfl (And.intro trivial (And.intro rfl (And.intro ?_ (And.intro rfl (And.intro ?_ (And.intro (congrArg (fun q : Nat => some (HO.cells [.sl ⟨6, []⟩ q])) hAl.symm) (And.intro ?_ (And.intro ⟨_, _, rfl, hAl.symm, fun i hi => by rw [hAl] at hi; exact appL_row (enc := intC) hi⟩ (And.intro trivial trivial)))))))))
    all_goals repeat' (first | exact rfl | exact trivial | refine And.intro ?_ ?_)
set_option maxHeartbeats 2000000 in
theorem m_eachList {D : List Int} (hB : OkB D)  (s : Rd) (hs : Stk D s) :
    ACallM B.P 24 ⟨[.obj 1001 0, .fn 59 [.obj 1004 0, .obj 1005 0]], [(1001, rdC D s), (1005, ptrC 1001), (1004, .cells [.sl ⟨1006, []⟩ ([] : List Int).length]), (1006, rowL Int 3 1 intC ([] : List Int))], .tup [], [(1001, rdC D (manF D (smF D) s).2), (1005, ptrC 1001), (1004, .cells [.sl ⟨101, []⟩ (manF D (smF D) s).1.length]), (101, rowL Int 3 1 intC (manF D (smF D) s).1)]⟩ := by
  have hb := smF_rng hB s
  refine ACallM.enter B _ _ Try.func24 rfl rfl Try.ntmps24 Try.results24 rfl ?_ fun hreal => ?_
  · repeat' (first | exact rfl | exact trivial | refine And.intro ?_ ?_)
  clear hreal
  refine AWp.rename 1006 61 rfl rfl ?_
  repeat (first | refine AWp.seq ?_ | refine AWp.block ?_ | refine AWp.skip ?_)
  refine AWp.region ?_
  refine CallX.lend (m_rSmall hB s hs.1) [(1001, 1001)] rfl (And.intro rfl trivial) rfl ?_
  intro _
  repeat (first | refine AWp.seq ?_ | refine AWp.block ?_ | refine AWp.skip ?_)
  refine AWp.loop (fun q : (Nat × Rd) × List Int => ⟨[(0, .obj 1001 0), (1, .fn 59 [.obj 1004 0, .obj 1005 0]), (4, .i64 q.1.1)], [(1001, rdC D q.1.2), (1005, ptrC 1001), (1004, .cells [.sl ⟨61, []⟩ q.2.length]), (61, rowL Int 3 1 intC q.2)]⟩) (fun q => Stk D q.1.2 ∧ q.2.length + q.1.1 ≤ 255 ∧ q.2 ++ (eachF (smF D) q.1.1 q.1.2).1 = (manF D (smF D) s).1 ∧ (eachF (smF D) q.1.1 q.1.2).2 = (manF D (smF D) s).2) (fun q => q.1.1) (((smF D s).1.toNat, (smF D s).2), []) ⟨(smF_rdr D).stk s hs, by show 0 + (smF D s).1.toNat ≤ 255; omega, rfl, rfl⟩ ?_ ?_
  · refine And.intro ?_ (And.intro rfl (And.intro ?_ (And.intro rfl (And.intro ?_ (And.intro rfl (And.intro ?_ (And.intro ⟨_, _, rfl, rfl, fun i hi => absurd hi (Nat.not_lt_zero _)⟩ (And.intro trivial trivial))))))))
    all_goals repeat' (first | exact rfl | exact trivial | exact congrArg (fun z => some (AV.i64 z)) (show (smF D s).1 = (((smF D s).1.toNat : Nat) : Int) from by omega) | refine And.intro ?_ ?_)
  rintro ⟨⟨k, t⟩, A⟩ ⟨ht, hAl, hA, hT⟩
  simp only at ht hAl hA hT
  repeat (first | refine AWp.seq ?_ | refine AWp.block ?_ | refine AWp.skip ?_)
  refine AWp.region ?_
  repeat' refine And.intro ?_ ?_
  all_goals first | exact fun h => h | exact gT | exact gF | exact gN | skip
  intro _
  repeat (first | refine AWp.seq ?_ | refine AWp.block ?_ | refine AWp.skip ?_)
  refine AWp.cond (And.intro (fun h1 => ?_) (fun h1 => ?_))
  · have h1 : (bif decide ((k : Int) > 0) then !t.sh else false) = true := h1
    have hk : 0 < k := by
      rcases Nat.eq_zero_or_pos k with e | e
      · rw [e] at h1; cases h1
      · exact e
    have hsh : t.sh = false := by
      rw [decide_eq_true (show ((k : Int) > 0) from by omega)] at h1
      simpa using h1
    obtain ⟨k, rfl⟩ : ∃ q, k = q + 1 := ⟨k - 1, by omega⟩
    rw [eachF_go hsh] at hA hT
    have hAl2 : (A ++ [((smF D) t).1]).length = A.length + 1 := List.length_append
    have hw : IntKind.i64.wrap (((k + 1 : Nat) : Int) - 1) = (k : Int) := by rw [wrap_in (by omega) (by omega)]; omega
    repeat (first | refine AWp.seq ?_ | refine AWp.block ?_ | refine AWp.skip ?_)
    refine AWp.region ?_
    refine CallX.lend (m_clList hB  t ht A (by omega)) [(1001, 1001), (1004, 1004), (1005, 1005), (1006, 61), (6, 101)] rfl (And.intro rfl (And.intro rfl (And.intro rfl (And.intro rfl trivial)))) rfl ?_
    intro _
    refine AWp.rename 101 61 rfl rfl ?_
    repeat (first | refine AWp.seq ?_ | refine AWp.block ?_ | refine AWp.skip ?_)
    refine AWp.region ?_
    intro _
    refine round_end ((k, ((smF D) t).2), A ++ [((smF D) t).1]) ⟨(smF_rdr D).stk t ht, by show (A ++ [((smF D) t).1]).length + k ≤ 255; rw [hAl2]; omega, by rw [← hA]; exact List.append_assoc .., hT⟩ ?_ (by show k < k + 1; omega)
    refine And.intro ?_ (And.intro rfl (And.intro ?_ (And.intro rfl (And.intro ?_ (And.intro rfl (And.intro ?_ (And.intro ⟨_, _, rfl, rfl, fun i hi => rfl⟩ (And.intro trivial trivial))))))))
    all_goals repeat' (first | exact rfl | exact trivial | exact congrArg (fun z => some (AV.i64 z)) hw | refine And.intro ?_ ?_)
  · have h1 : (bif decide ((k : Int) > 0) then !t.sh else false) = false := h1
    have hfin : eachF (smF D) k t = ([], t) := by
      rcases Nat.eq_zero_or_pos k with e | e
      · subst e; rfl
      · rw [decide_eq_true (show ((k : Int) > 0) from by omega)] at h1
        exact eachF_stop (by simpa using h1)
    rw [hfin] at hA hT
    have hA : A = (manF D (smF D) s).1 := (List.append_nil A).symm.trans hA
    have hT : t = (manF D (smF D) s).2 := hT
    subst hA hT
    refine AWp.rename 61 101 rfl rfl ?_
    refine AWp.exit ?_
    refine ⟨Or.inr rfl, ?_⟩
    intro _
    refine And.intro rfl (And.intro trivial (And.intro rfl (And.intro ?_ (And.intro rfl (And.intro ?_ (And.intro rfl (And.intro ?_ (And.intro ⟨_, _, rfl, rfl, fun i hi => rfl⟩ (And.intro trivial trivial)))))))))
    all_goals repeat' (first | exact rfl | exact trivial | refine And.intro ?_ ?_)
set_option maxHeartbeats 2000000 in
theorem m_clJnk {D : List Int} (hB : OkB D) (a b c d : Int) (s : Rd) (hs : Stk D s) (A : List Int) (hA : A.length < 255) :
    ACallM B.P 25 ⟨[.obj 1004 0, .obj 1005 0], [(1001, rdC D s), (1005, ptrC 1001), (1004, .cells [.i64 a, .i64 b, .val (.slice none 0 0), .val (.slice none 0 0), .i64 c, .i64 d, .sl ⟨1006, []⟩ A.length]), (1006, rowL Int 3 1 intC A)], .tup [], [(1001, rdC D ((wdF D) s).2), (1005, ptrC 1001), (1004, .cells [.i64 a, .i64 b, .val (.slice none 0 0), .val (.slice none 0 0), .i64 c, .i64 d, .sl ⟨7, []⟩ (A ++ [((wdF D) s).1]).length]), (7, rowL Int 3 1 intC (A ++ [((wdF D) s).1]))]⟩ := by
  have hAl : (A ++ [((wdF D) s).1]).length = A.length + 1 := List.length_append
  refine ACallM.enter B _ _ Try.func25 rfl rfl Try.ntmps25 Try.results25 rfl ?_ fun hreal => ?_
  · repeat' (first | exact rfl | exact trivial | refine And.intro ?_ ?_)
  clear hreal
  repeat (first | refine AWp.seq ?_ | refine AWp.block ?_ | refine AWp.skip ?_)
  refine AWp.quietFirst (.c 0 true (.c 1 true (.c 2 true (.c 3 true (.c 4 true (.c 5 true (.c 6 true (.c 7 true .fin .no) .no) .no) .no) .no) .no) (.c 2 true (.c 1 true (.c 3 true (.c 4 true (.c 5 true (.c 6 true (.c 7 true .fin .no) .no) .no) .no) .no) (.c 3 true (.c 1 true (.c 4 true (.c 5 true (.c 6 true (.c 7 true .fin .no) .no) .no) .no) (.c 4 true (.c 1 true (.c 5 true (.c 6 true (.c 7 true .fin .no) .no) .no) .no) .no)) .no)) .no)) (.c 2 true (.c 0 true (.c 1 true (.c 3 true (.c 4 true (.c 5 true (.c 6 true (.c 7 true .fin .no) .no) .no) .no) .no) (.c 3 true (.c 1 true (.c 4 true (.c 5 true (.c 6 true (.c 7 true .fin .no) .no) .no) .no) (.c 4 true (.c 1 true (.c 5 true (.c 6 true (.c 7 true .fin .no) .no) .no) .no) .no)) .no)) (.c 3 true (.c 0 true (.c 1 true (.c 4 true (.c 5 true (.c 6 true (.c 7 true .fin .no) .no) .no) .no) (.c 4 true (.c 1 true (.c 5 true (.c 6 true (.c 7 true .fin .no) .no) .no) .no) .no)) (.c 4 true (.c 0 true (.c 1 true (.c 5 true (.c 6 true (.c 7 true .fin .no) .no) .no) .no) .no) .no)) .no)) .no)) [] [] mixed (by kernel_rfl) ?_
  repeat' (first | exact trivial | refine And.intro ?_ ?_ | refine CallX.lend (m_rWide hB s hs) [(1001, 1001)] rfl (And.intro rfl trivial) rfl ?_)
  all_goals first | exact Nat.le_refl _ | exact rfl | (intro i hi; have e : i = 0 := (by omega); subst e; rfl) | omega | skip
  all_goals
    intro _
    refine ⟨Or.inr rfl, ?_⟩
    intro _
    refine And.intro rfl (And.intro trivial (And.intro rfl (And.intro ?_ (And.intro rfl (And.intro ?_ (And.intro (congrArg (fun q : Nat => some (HO.cells [.i64 a, .i64 b, .val (.slice none 0 0), .val (.slice none 0 0), .i64 c, .i64 d, .sl ⟨7, []⟩ q])) hAl.symm) (And.intro ?_ (And.intro ⟨_, _, rfl, hAl.symm, fun i hi => by rw [hAl] at hi; exact appL_row (enc := intC) hi⟩ (And.intro trivial trivial)))))))))
    all_goals repeat' (first | exact rfl | exact trivial | refine And.intro ?_ ?_)
set_option maxHeartbeats 2000000 in
theorem m_eachJnk {D : List Int} (hB : OkB D) (a b c d : Int) (s : Rd) (hs : Stk D s) :
    ACallM B.P 24 ⟨[.obj 1001 0, .fn 25 [.obj 1004 0, .obj 1005 0]], [(1001, rdC D s), (1005, ptrC 1001), (1004, .cells [.i64 a, .i64 b, .val (.slice none 0 0), .val (.slice none 0 0), .i64 c, .i64 d, .sl ⟨1006, []⟩ ([] : List Int).length]), (1006, rowL Int 3 1 intC ([] : List Int))], .tup [], [(1001, rdC D (manF D (wdF D) s).2), (1005, ptrC 1001), (1004, .cells [.i64 a, .i64 b, .val (.slice none 0 0), .val (.slice none 0 0), .i64 c, .i64 d, .sl ⟨101, []⟩ (manF D (wdF D) s).1.length]), (101, rowL Int 3 1 intC (manF D (wdF D) s).1)]⟩ := by
  have hb := smF_rng hB s
  refine ACallM.enter B _ _ Try.func24 rfl rfl Try.ntmps24 Try.results24 rfl ?_ fun hreal => ?_
  · repeat' (first | exact rfl | exact trivial | refine And.intro ?_ ?_)
  clear hreal
  refine AWp.rename 1006 61 rfl rfl ?_
  repeat (first | refine AWp.seq ?_ | refine AWp.block ?_ | refine AWp.skip ?_)
  refine AWp.region ?_
  refine CallX.lend (m_rSmall hB s hs.1) [(1001, 1001)] rfl (And.intro rfl trivial) rfl ?_
  intro _
  repeat (first | refine AWp.seq ?_ | refine AWp.block ?_ | refine AWp.skip ?_)
  refine AWp.loop (fun q : (Nat × Rd) × List Int => ⟨[(0, .obj 1001 0), (1, .fn 25 [.obj 1004 0, .obj 1005 0]), (4, .i64 q.1.1)], [(1001, rdC D q.1.2), (1005, ptrC 1001), (1004, .cells [.i64 a, .i64 b, .val (.slice none 0 0), .val (.slice none 0 0), .i64 c, .i64 d, .sl ⟨61, []⟩ q.2.length]), (61, rowL Int 3 1 intC q.2)]⟩) (fun q => Stk D q.1.2 ∧ q.2.length + q.1.1 ≤ 255 ∧ q.2 ++ (eachF (wdF D) q.1.1 q.1.2).1 = (manF D (wdF D) s).1 ∧ (eachF (wdF D) q.1.1 q.1.2).2 = (manF D (wdF D) s).2) (fun q => q.1.1) (((smF D s).1.toNat, (smF D s).2), []) ⟨(smF_rdr D).stk s hs, by show 0 + (smF D s).1.toNat ≤ 255; omega, rfl, rfl⟩ ?_ ?_
  · refine And.intro ?_ (And.intro rfl (And.intro ?_ (And.intro rfl (And.intro ?_ (And.intro rfl (And.intro ?_ (And.intro ⟨_, _, rfl, rfl, fun i hi => absurd hi (Nat.not_lt_zero _)⟩ (And.intro trivial trivial))))))))
    all_goals repeat' (first | exact rfl | exact trivial | exact congrArg (fun z => some (AV.i64 z)) (show (smF D s).1 = (((smF D s).1.toNat : Nat) : Int) from by omega) | refine And.intro ?_ ?_)
  rintro ⟨⟨k, t⟩, A⟩ ⟨ht, hAl, hA, hT⟩
  simp only at ht hAl hA hT
  repeat (first | refine AWp.seq ?_ | refine AWp.block ?_ | refine AWp.skip ?_)
  refine AWp.region ?_
  repeat' refine And.intro ?_ ?_
  all_goals first | exact fun h => h | exact gT | exact gF | exact gN | skip
  intro _
  repeat (first | refine AWp.seq ?_ | refine AWp.block ?_ | refine AWp.skip ?_)
  refine AWp.cond (And.intro (fun h1 => ?_) (fun h1 => ?_))
  · have h1 : (bif decide ((k : Int) > 0) then !t.sh else false) = true := h1
    have hk : 0 < k := by
      rcases Nat.eq_zero_or_pos k with e | e
      · rw [e] at h1; cases h1
      · exact e
    have hsh : t.sh = false := by
      rw [decide_eq_true (show ((k : Int) > 0) from by omega)] at h1
      simpa using h1
    obtain ⟨k, rfl⟩ : ∃ q, k = q + 1 := ⟨k - 1, by omega⟩
    rw [eachF_go hsh] at hA hT
    have hAl2 : (A ++ [((wdF D) t).1]).length = A.length + 1 := List.length_append
    have hw : IntKind.i64.wrap (((k + 1 : Nat) : Int) - 1) = (k : Int) := by rw [wrap_in (by omega) (by omega)]; omega
    repeat (first | refine AWp.seq ?_ | refine AWp.block ?_ | refine AWp.skip ?_)
    refine AWp.region ?_
    refine CallX.lend (m_clJnk hB a b c d t ht A (by omega)) [(1001, 1001), (1004, 1004), (1005, 1005), (1006, 61), (7, 101)] rfl (And.intro rfl (And.intro rfl (And.intro rfl (And.intro rfl trivial)))) rfl ?_
    intro _
    refine AWp.rename 101 61 rfl rfl ?_
    repeat (first | refine AWp.seq ?_ | refine AWp.block ?_ | refine AWp.skip ?_)
    refine AWp.region ?_
    intro _
    refine round_end ((k, ((wdF D) t).2), A ++ [((wdF D) t).1]) ⟨(wdF_rdr D).stk t ht, by show (A ++ [((wdF D) t).1]).length + k ≤ 255; rw [hAl2]; omega, by rw [← hA]; exact List.append_assoc .., hT⟩ ?_ (by show k < k + 1; omega)
    refine And.intro ?_ (And.intro rfl (And.intro ?_ (And.intro rfl (And.intro ?_ (And.intro rfl (And.intro ?_ (And.intro ⟨_, _, rfl, rfl, fun i hi => rfl⟩ (And.intro trivial trivial))))))))
    all_goals repeat' (first | exact rfl | exact trivial | exact congrArg (fun z => some (AV.i64 z)) hw | refine And.intro ?_ ?_)
  · have h1 : (bif decide ((k : Int) > 0) then !t.sh else false) = false := h1
    have hfin : eachF (wdF D) k t = ([], t) := by
      rcases Nat.eq_zero_or_pos k with e | e
      · subst e; rfl
      · rw [decide_eq_true (show ((k : Int) > 0) from by omega)] at h1
        exact eachF_stop (by simpa using h1)
    rw [hfin] at hA hT
    have hA : A = (manF D (wdF D) s).1 := (List.append_nil A).symm.trans hA
    have hT : t = (manF D (wdF D) s).2 := hT
    subst hA hT
    refine AWp.rename 61 101 rfl rfl ?_
    refine AWp.exit ?_
    refine ⟨Or.inr rfl, ?_⟩
    intro _
    refine And.intro rfl (And.intro trivial (And.intro rfl (And.intro ?_ (And.intro rfl (And.intro ?_ (And.intro rfl (And.intro ?_ (And.intro ⟨_, _, rfl, rfl, fun i hi => rfl⟩ (And.intro trivial trivial)))))))))
    all_goals repeat' (first | exact rfl | exact trivial | refine And.intro ?_ ?_)
set_option maxHeartbeats 1000000 in
theorem m_rList {D : List Int} (hB : OkB D) (s : Rd) (hs : Stk D s) :
    ACallM B.P 26 ⟨[.obj 1001 0], [(1001, rdC D s)], ints (lstF D s).1, [(1001, rdC D (lstF D s).2)]⟩ := by
  refine ACallM.enter B _ _ Try.func26 rfl rfl Try.ntmps26 Try.results26 rfl ?_ fun hreal => ?_
  · repeat' (first | exact rfl | exact trivial | refine And.intro ?_ ?_)
  clear hreal
  repeat (first | refine AWp.seq ?_ | refine AWp.block ?_ | refine AWp.skip ?_)
  refine AWp.region ?_
  intro _
  repeat (first | refine AWp.seq ?_ | refine AWp.block ?_ | refine AWp.skip ?_)
  refine AWp.region ?_
  intro _
  refine AWp.via (newρ 61) ⟨[(1, .obj 1 0), (3, .obj 3 0)], [(1001, rdC D s), (1, ptrC 1001), (3, .cells [.sl 61 0]), (61, rowL Int 3 1 intC [])]⟩ ?_ ?_
  · refine ⟨?_, ?_, newρ_inj 61 _, newρ_old (by decide) _⟩
    · repeat' (first | exact rfl | exact trivial | refine And.intro ?_ ?_)
    · refine And.intro (And.intro ⟨_, ⟨_, rfl, rfl, trivial⟩, rfl⟩ ?_) (And.intro (And.intro ⟨_, ⟨_, rfl, rfl, trivial⟩, rfl⟩ ?_) (And.intro (And.intro ⟨_, ⟨_, rfl, rfl, trivial⟩, rfl⟩ ?_) (And.intro (And.intro ⟨_, _, _, rfl⟩ ?_) (trivial))))
      all_goals repeat' (first | exact rfl | exact trivial | refine And.intro ?_ ?_)
  repeat (first | refine AWp.seq ?_ | refine AWp.block ?_ | refine AWp.skip ?_)
  refine AWp.region ?_
  refine CallX.lend (m_eachList hB s hs) [(1001, 1001), (1004, 3), (1005, 1), (1006, 61), (101, 101)] rfl (And.intro rfl (And.intro rfl (And.intro rfl (And.intro rfl trivial)))) rfl ?_
  intro _
  refine AWp.freeze 101 (fun i => intC ((lstF D s).1.getD i default)) rfl (fun i hi => rfl) ?_
  repeat (first | refine AWp.seq ?_ | refine AWp.block ?_ | refine AWp.skip ?_)
  refine AWp.region ?_
  intro _
  refine AWp.ret ⟨Or.inl rfl, ?_⟩
  intro _
  refine And.intro rfl (And.intro trivial (And.intro rfl (And.intro ?_ trivial)))
  all_goals repeat' (first | exact rfl | exact trivial | refine And.intro ?_ ?_)
theorem opd_cells {D : List Int} (hB : OkB D) (s : Rd) : [AV.i64 (bits .and .i64 (smF D s).1 3), AV.i64 (smF D (smF D s).2).1, AV.bool (bits .and .i64 (smF D s).1 4 != 0), AV.i64 ((smF D s).1.fdiv (2 ^ min (3 : Int).toNat IntKind.i64.bits)), AV.i64 (smF D (smF D (smF D s).2).2).1] = Opd.cells (opF D s).1 := by
  have h := smF_rng hB s
  rw [and3 h, and4 h, show (smF D s).1.fdiv (2 ^ min (3 : Int).toNat IntKind.i64.bits) = (smF D s).1 / 8 from Int.fdiv_eq_ediv_of_nonneg _ (by decide)]
  rfl
theorem rg_cells {D : List Int} (hB : OkB D) (s : Rd) : [AV.i64 ((smF D s).1.fdiv (2 ^ min (4 : Int).toNat IntKind.i64.bits)), AV.i64 (bits .and .i64 (smF D s).1 15)] = Rg.cells (rgF D s).1 := by
  have h := smF_rng hB s
  rw [and15 h, show (smF D s).1.fdiv (2 ^ min (4 : Int).toNat IntKind.i64.bits) = (smF D s).1 / 16 from Int.fdiv_eq_ediv_of_nonneg _ (by decide)]
  rfl
theorem brkF_go {α : Type} {f : Rd → α × Rd} {k : Nat} {s : Rd} (h : (f s).2.sh = false) : brkF f (k + 1) s = ((f s).1 :: (brkF f k (f s).2).1, (brkF f k (f s).2).2) := by
  show (bif (f s).2.sh then _ else _) = _
  rw [h]; rfl
theorem brkF_stop {α : Type} {f : Rd → α × Rd} {k : Nat} {s : Rd} (h : (f s).2.sh = true) : brkF f (k + 1) s = ([(f s).1], (f s).2) := by
  show (bif (f s).2.sh then _ else _) = _
  rw [h]; rfl
theorem reps_eq : ∀ {xs ys : List AV}, xs = ys → reps xs ys
  | [], _, rfl => trivial
  | x :: xs, _, rfl => ⟨fun F τ w v h => h, reps_eq rfl⟩
set_option maxHeartbeats 4000000 in
theorem m_rInstr {D : List Int} (hB : OkB D) (s : Rd) (hs : Stk D s) :
    ACallM B.P 61 ⟨[.obj 1001 0], [(1001, rdC D s)], (insM D s).1.av, [(1001, rdC D (insM D s).2)]⟩ := by
  have s1 := (smF_rdr D).stk s hs
  have s2 := (smF_rdr D).stk _ s1
  have s3 := (smF_rdr D).stk _ s2
  have b1 := smF_rng hB (smF D s).2
  have b2 := smF_rng hB (smF D (smF D s).2).2
  refine ACallM.enter B _ _ Try.func61 rfl rfl Try.ntmps61 Try.results61 rfl ?_ fun hreal => ?_
  · repeat' (first | exact rfl | exact trivial | refine And.intro ?_ ?_)
  clear hreal
  repeat (first | refine AWp.seq ?_ | refine AWp.block ?_ | refine AWp.skip ?_)
  refine AWp.region ?_
  intro _
  repeat (first | refine AWp.seq ?_ | refine AWp.block ?_ | refine AWp.skip ?_)
  refine AWp.region ?_
  refine CallX.lend (m_rSmall hB s hs.1) [(1001, 1001)] rfl (And.intro rfl trivial) rfl ?_
  intro _
  repeat (first | refine AWp.seq ?_ | refine AWp.block ?_ | refine AWp.skip ?_)
  refine AWp.region ?_
  refine CallX.lend (m_rSmall hB _ s1.1) [(1001, 1001)] rfl (And.intro rfl trivial) rfl ?_
  intro _
  repeat (first | refine AWp.seq ?_ | refine AWp.block ?_ | refine AWp.skip ?_)
  refine AWp.region ?_
  refine CallX.lend (m_rSmall hB _ s2.1) [(1001, 1001)] rfl (And.intro rfl trivial) rfl ?_
  intro _
  refine AWp.via (newρ 61) ⟨[(0, .obj 1001 0), (2, .obj 2 0), (3, .obj 3 0), (4, .i64 (smF D (smF D s).2).1), (5, .i64 (smF D (smF D (smF D s).2).2).1)], [(1001, rdC D (smF D (smF D (smF D s).2).2).2), (2, .cells [.i64 0, .val (.slice none 0 0), .val (.slice none 0 0)]), (3, .cells [.i64 (smF D s).1, .sl 61 0, .val (.slice none 0 0)]), (61, rowL Opd 125 5 Opd.cells [])]⟩ ?_ ?_
  · refine ⟨?_, ?_, newρ_inj 61 _, newρ_old (by decide) _⟩
    · repeat' (first | exact rfl | exact trivial | refine And.intro ?_ ?_)
    · refine And.intro (And.intro ⟨_, ⟨_, rfl, rfl, trivial⟩, rfl⟩ ?_) (And.intro (And.intro ⟨_, ⟨_, rfl, rfl, trivial⟩, rfl⟩ ?_) (And.intro (And.intro ⟨_, ⟨_, rfl, rfl, trivial⟩, rfl⟩ ?_) (And.intro (And.intro ⟨_, _, _, rfl⟩ ?_) (trivial))))
      all_goals repeat' (first | exact rfl | exact trivial | refine And.intro ?_ ?_)
  refine AWp.via (newρ 62) ⟨[(0, .obj 1001 0), (2, .obj 2 0), (3, .obj 3 0), (4, .i64 (smF D (smF D s).2).1), (5, .i64 (smF D (smF D (smF D s).2).2).1)], [(1001, rdC D (smF D (smF D (smF D s).2).2).2), (2, .cells [.i64 0, .val (.slice none 0 0), .val (.slice none 0 0)]), (3, .cells [.i64 (smF D s).1, .sl 61 0, .sl 62 0]), (61, rowL Opd 125 5 Opd.cells []), (62, rowL Rg 127 2 Rg.cells [])]⟩ ?_ ?_
  · refine ⟨?_, ?_, newρ_inj 62 _, newρ_old (by decide) _⟩
    · repeat' (first | exact rfl | exact trivial | refine And.intro ?_ ?_)
    · refine And.intro (And.intro ⟨_, ⟨_, rfl, rfl, trivial⟩, rfl⟩ ?_) (And.intro (And.intro ⟨_, ⟨_, rfl, rfl, trivial⟩, rfl⟩ ?_) (And.intro (And.intro ⟨_, ⟨_, rfl, rfl, trivial⟩, rfl⟩ ?_) (And.intro (And.intro ⟨_, ⟨_, rfl, rfl, trivial⟩, Or.inl ⟨_, rfl, fun i hi => rfl⟩⟩ ?_) (And.intro (And.intro ⟨_, _, _, rfl⟩ ?_) (trivial)))))
      all_goals repeat' (first | exact rfl | exact trivial | refine And.intro ?_ ?_)
  repeat (first | refine AWp.seq ?_ | refine AWp.block ?_ | refine AWp.skip ?_)
  refine AWp.region ?_
  intro _
  try refine AWp.seq ?_
  refine AWp.mono (Q := fun e z => e = .normal ∧ Sub ⟨[(0, .obj 1001 0), (2, .obj 2 0), (3, .obj 3 0), (4, .i64 (smF D (smF D s).2).1), (5, .i64 (smF D (smF D (smF D s).2).2).1)], [(1001, rdC D (brkF (opF D) (smF D (smF D s).2).1.toNat ((smF D (smF D (smF D s).2).2).2)).2), (2, .cells [.i64 0, .val (.slice none 0 0), .val (.slice none 0 0)]), (3, .cells [.i64 (smF D s).1, .sl ⟨61, []⟩ (brkF (opF D) (smF D (smF D s).2).1.toNat ((smF D (smF D (smF D s).2).2).2)).1.length, .sl ⟨62, []⟩ 0]), (61, rowL Opd 125 5 Opd.cells (brkF (opF D) (smF D (smF D s).2).1.toNat ((smF D (smF D (smF D s).2).2).2)).1), (62, rowL Rg 127 2 Rg.cells [])]⟩ z) ?_ ?_
  · repeat (first | refine AWp.seq ?_ | refine AWp.block ?_ | refine AWp.skip ?_)
    refine AWp.loop (fun q : (Nat × Rd) × List Opd => ⟨[(0, .obj 1001 0), (2, .obj 2 0), (3, .obj 3 0), (4, .i64 (smF D (smF D s).2).1), (5, .i64 (smF D (smF D (smF D s).2).2).1), (16, .i64 (smF D (smF D s).2).1), (17, .i64 ((smF D (smF D s).2).1 - q.1.1))], [(1001, rdC D q.1.2), (2, .cells [.i64 0, .val (.slice none 0 0), .val (.slice none 0 0)]), (3, .cells [.i64 (smF D s).1, .sl ⟨61, []⟩ q.2.length, .sl ⟨62, []⟩ 0]), (61, rowL Opd 125 5 Opd.cells q.2), (62, rowL Rg 127 2 Rg.cells [])]⟩) (fun q => Stk D q.1.2 ∧ q.2.length + q.1.1 ≤ 255 ∧ q.1.1 ≤ (smF D (smF D s).2).1.toNat ∧ q.2 ++ (brkF (opF D) q.1.1 q.1.2).1 = (brkF (opF D) (smF D (smF D s).2).1.toNat ((smF D (smF D (smF D s).2).2).2)).1 ∧ (brkF (opF D) q.1.1 q.1.2).2 = (brkF (opF D) (smF D (smF D s).2).1.toNat ((smF D (smF D (smF D s).2).2).2)).2) (fun q => q.1.1) (((smF D (smF D s).2).1.toNat, (smF D (smF D (smF D s).2).2).2), []) ⟨s3, by show 0 + (smF D (smF D s).2).1.toNat ≤ 255; omega, Nat.le_refl _, rfl, rfl⟩ ?_ ?_
    · refine And.intro ?_ (And.intro rfl (And.intro ?_ (And.intro rfl (And.intro ?_ (And.intro rfl (And.intro ?_ (And.intro ⟨_, _, rfl, rfl, fun i hi => absurd hi (Nat.not_lt_zero _)⟩ (And.intro trivial (And.intro ⟨_, _, rfl, rfl, fun i hi => absurd hi (Nat.not_lt_zero _)⟩ (And.intro trivial (trivial)))))))))))
      all_goals repeat' (first | exact rfl | exact trivial | exact congrArg (fun z => some (AV.i64 z)) (show (0 : Int) = (smF D (smF D s).2).1 - (((smF D (smF D s).2).1.toNat : Nat) : Int) from by omega) | refine And.intro ?_ ?_)
    rintro ⟨⟨k, t⟩, A⟩ ⟨ht, hAl, hkn, hA, hT⟩
    simp only at ht hAl hkn hA hT
    have t1 := (smF_rdr D).stk t ht
    have t2 := (smF_rdr D).stk _ t1
    have tf := (opF_rdr D).stk t ht
    repeat (first | refine AWp.seq ?_ | refine AWp.block ?_ | refine AWp.skip ?_)
    refine AWp.region ?_
    intro _
    repeat (first | refine AWp.seq ?_ | refine AWp.block ?_ | refine AWp.skip ?_)
    refine AWp.cond (And.intro (fun h1 => ?_) (fun h1 => ?_))
    · have h1' : (smF D (smF D s).2).1 - (k : Int) < (smF D (smF D s).2).1 := of_decide_eq_true h1
      obtain ⟨k, rfl⟩ : ∃ q, k = q + 1 := ⟨k - 1, by omega⟩
      have hAl2 : (A ++ [(opF D t).1]).length = A.length + 1 := List.length_append
      have hw : IntKind.i64.wrap ((smF D (smF D s).2).1 - ((k + 1 : Nat) : Int) + 1) = (smF D (smF D s).2).1 - (k : Int) := by rw [wrap_in (by omega) (by omega)]; omega
      repeat (first | refine AWp.seq ?_ | refine AWp.block ?_ | refine AWp.skip ?_)
      refine AWp.region ?_
      refine CallX.lend (m_rSmall hB t ht.1) [(1001, 1001)] rfl (And.intro rfl trivial) rfl ?_
      intro _
      repeat (first | refine AWp.seq ?_ | refine AWp.block ?_ | refine AWp.skip ?_)
      refine AWp.region ?_
      repeat' (first | refine And.intro ?_ ?_ | refine CallX.lend (m_rSmall hB _ t1.1) [(1001, 1001)] rfl (And.intro rfl trivial) rfl ?_)
      all_goals first | exact (fun _ => by decide) | decide | skip
      intro _
      repeat (first | refine AWp.seq ?_ | refine AWp.block ?_ | refine AWp.skip ?_)
      refine AWp.region ?_
      refine CallX.lend (m_rSmall hB _ t2.1) [(1001, 1001)] rfl (And.intro rfl trivial) rfl ?_
      intro _
      refine AWp.recells 7 (Opd.cells (opF D t).1) rfl rfl (reps_eq (opd_cells hB t)) ?_
      refine AWp.freezeObj 7 rfl rfl ?_
      repeat (first | refine AWp.seq ?_ | refine AWp.block ?_ | refine AWp.skip ?_)
      refine AWp.region ?_
      refine And.intro (Nat.le_refl _) (And.intro (fun i hi => by have e : i = 0 := (by omega); subst e; rfl) (And.intro rfl (And.intro (by show (A.length + 1) * _ ≤ _; omega) ?_)))
      intro _
      refine AWp.rename 38 61 rfl rfl ?_
      refine AWp.weaken (s' := ⟨[(0, .obj 1001 0), (2, .obj 2 0), (3, .obj 3 0), (4, .i64 (smF D (smF D s).2).1), (5, .i64 (smF D (smF D (smF D s).2).2).1), (16, .i64 (smF D (smF D s).2).1), (17, .i64 ((smF D (smF D s).2).1 - ((k + 1 : Nat) : Int)))], [(1001, rdC D (opF D t).2), (2, .cells [.i64 0, .val (.slice none 0 0), .val (.slice none 0 0)]), (3, .cells [.i64 (smF D s).1, .sl ⟨61, []⟩ (A ++ [(opF D t).1]).length, .sl ⟨62, []⟩ 0]), (61, rowL Opd 125 5 Opd.cells (A ++ [(opF D t).1])), (62, rowL Rg 127 2 Rg.cells [])]⟩) ?_ ?_
      · refine And.intro ?_ (And.intro rfl (And.intro ?_ (And.intro rfl (And.intro ?_ (And.intro (congrArg (fun q : Nat => some (HO.cells [.i64 (smF D s).1, .sl ⟨61, []⟩ q, .sl ⟨62, []⟩ 0])) hAl2.symm) (And.intro ?_ (And.intro ⟨_, _, rfl, hAl2.symm, fun i hi => by rw [hAl2] at hi; exact (appL_row (enc := Opd.cells) hi)⟩ (And.intro trivial (And.intro ⟨_, _, rfl, rfl, fun i hi => rfl⟩ (And.intro trivial trivial))))))))))
        all_goals repeat' (first | exact rfl | exact trivial | refine And.intro ?_ ?_)
      repeat (first | refine AWp.seq ?_ | refine AWp.block ?_ | refine AWp.skip ?_)
      refine AWp.region ?_
      intro _
      repeat (first | refine AWp.seq ?_ | refine AWp.block ?_ | refine AWp.skip ?_)
      refine AWp.cond (And.intro (fun h2 => ?_) (fun h2 => ?_))
      · have h2 : (opF D t).2.sh = true := h2
        rw [brkF_stop h2] at hA hT
        refine AWp.exit ?_
        have hT : (opF D t).2 = (brkF (opF D) (smF D (smF D s).2).1.toNat ((smF D (smF D (smF D s).2).2).2)).2 := hT
        rw [← hA, ← hT]
        refine And.intro rfl ?_
        refine And.intro ?_ (And.intro rfl (And.intro ?_ (And.intro rfl (And.intro ?_ (And.intro rfl (And.intro ?_ (And.intro ⟨_, _, rfl, rfl, fun i hi => rfl⟩ (And.intro trivial (And.intro ⟨_, _, rfl, rfl, fun i hi => rfl⟩ (And.intro trivial (trivial)))))))))))
        all_goals repeat' (first | exact rfl | exact trivial | refine And.intro ?_ ?_)
      · have h2 : (opF D t).2.sh = false := h2
        rw [brkF_go h2] at hA hT
        repeat (first | refine AWp.seq ?_ | refine AWp.block ?_ | refine AWp.skip ?_)
        refine AWp.region ?_
        intro _
        refine round_end ((k, (opF D t).2), A ++ [(opF D t).1]) ⟨tf, by show (A ++ [(opF D t).1]).length + k ≤ 255; rw [hAl2]; omega, by show k ≤ (smF D (smF D s).2).1.toNat; omega, by rw [← hA]; exact List.append_assoc .., hT⟩ ?_ (by show k < k + 1; omega)
        refine And.intro ?_ (And.intro rfl (And.intro ?_ (And.intro rfl (And.intro ?_ (And.intro rfl (And.intro ?_ (And.intro ⟨_, _, rfl, rfl, fun i hi => rfl⟩ (And.intro trivial (And.intro ⟨_, _, rfl, rfl, fun i hi => rfl⟩ (And.intro trivial (trivial)))))))))))
        all_goals repeat' (first | exact rfl | exact trivial | exact congrArg (fun z => some (AV.i64 z)) hw | refine And.intro ?_ ?_)
    · have h1' : ¬ (smF D (smF D s).2).1 - (k : Int) < (smF D (smF D s).2).1 := of_decide_eq_false h1
      obtain rfl : k = 0 := by omega
      have hA : A = (brkF (opF D) (smF D (smF D s).2).1.toNat ((smF D (smF D (smF D s).2).2).2)).1 := (List.append_nil A).symm.trans hA
      have hT : t = (brkF (opF D) (smF D (smF D s).2).1.toNat ((smF D (smF D (smF D s).2).2).2)).2 := hT
      refine AWp.exit ?_
      rw [← hA, ← hT]
      refine And.intro rfl ?_
      refine And.intro ?_ (And.intro rfl (And.intro ?_ (And.intro rfl (And.intro ?_ (And.intro rfl (And.intro ?_ (And.intro ⟨_, _, rfl, rfl, fun i hi => rfl⟩ (And.intro trivial (And.intro ⟨_, _, rfl, rfl, fun i hi => rfl⟩ (And.intro trivial (trivial)))))))))))
      all_goals repeat' (first | exact rfl | exact trivial | refine And.intro ?_ ?_)
  rintro _ _ ⟨rfl, hs2⟩
  refine AWp.weaken hs2 ?_
  have u3 := (brkF_rdr (opF_rdr D) (smF D (smF D s).2).1.toNat).stk _ s3
  refine AWp.freeze 61 (fun i => Opd.cells ((brkF (opF D) (smF D (smF D s).2).1.toNat ((smF D (smF D (smF D s).2).2).2)).1.getD i default)) rfl (fun i hi => rfl) ?_
  repeat (first | refine AWp.seq ?_ | refine AWp.block ?_ | refine AWp.skip ?_)
  refine AWp.region ?_
  intro _
  try refine AWp.seq ?_
  refine AWp.mono (Q := fun e z => e = .normal ∧ Sub ⟨[(0, .obj 1001 0), (2, .obj 2 0), (3, .obj 3 0), (5, .i64 (smF D (smF D (smF D s).2).2).1)], [(1001, rdC D (brkF (rgF D) (smF D (smF D (smF D s).2).2).1.toNat ((brkF (opF D) (smF D (smF D s).2).1.toNat ((smF D (smF D (smF D s).2).2).2)).2)).2), (2, .cells [.i64 0, .val (.slice none 0 0), .val (.slice none 0 0)]), (3, .cells [.i64 (smF D s).1, roL 5 Opd.cells (brkF (opF D) (smF D (smF D s).2).1.toNat ((smF D (smF D (smF D s).2).2).2)).1, .sl ⟨62, []⟩ (brkF (rgF D) (smF D (smF D (smF D s).2).2).1.toNat ((brkF (opF D) (smF D (smF D s).2).1.toNat ((smF D (smF D (smF D s).2).2).2)).2)).1.length]), (62, rowL Rg 127 2 Rg.cells (brkF (rgF D) (smF D (smF D (smF D s).2).2).1.toNat ((brkF (opF D) (smF D (smF D s).2).1.toNat ((smF D (smF D (smF D s).2).2).2)).2)).1)]⟩ z) ?_ ?_
  · repeat (first | refine AWp.seq ?_ | refine AWp.block ?_ | refine AWp.skip ?_)
    refine AWp.loop (fun q : (Nat × Rd) × List Rg => ⟨[(0, .obj 1001 0), (2, .obj 2 0), (3, .obj 3 0), (5, .i64 (smF D (smF D (smF D s).2).2).1), (45, .i64 (smF D (smF D (smF D s).2).2).1), (46, .i64 ((smF D (smF D (smF D s).2).2).1 - q.1.1))], [(1001, rdC D q.1.2), (2, .cells [.i64 0, .val (.slice none 0 0), .val (.slice none 0 0)]), (3, .cells [.i64 (smF D s).1, roL 5 Opd.cells (brkF (opF D) (smF D (smF D s).2).1.toNat ((smF D (smF D (smF D s).2).2).2)).1, .sl ⟨62, []⟩ q.2.length]), (62, rowL Rg 127 2 Rg.cells q.2)]⟩) (fun q => Stk D q.1.2 ∧ q.2.length + q.1.1 ≤ 255 ∧ q.1.1 ≤ (smF D (smF D (smF D s).2).2).1.toNat ∧ q.2 ++ (brkF (rgF D) q.1.1 q.1.2).1 = (brkF (rgF D) (smF D (smF D (smF D s).2).2).1.toNat ((brkF (opF D) (smF D (smF D s).2).1.toNat ((smF D (smF D (smF D s).2).2).2)).2)).1 ∧ (brkF (rgF D) q.1.1 q.1.2).2 = (brkF (rgF D) (smF D (smF D (smF D s).2).2).1.toNat ((brkF (opF D) (smF D (smF D s).2).1.toNat ((smF D (smF D (smF D s).2).2).2)).2)).2) (fun q => q.1.1) (((smF D (smF D (smF D s).2).2).1.toNat, (brkF (opF D) (smF D (smF D s).2).1.toNat ((smF D (smF D (smF D s).2).2).2)).2), []) ⟨u3, by show 0 + (smF D (smF D (smF D s).2).2).1.toNat ≤ 255; omega, Nat.le_refl _, rfl, rfl⟩ ?_ ?_
    · refine And.intro ?_ (And.intro rfl (And.intro ?_ (And.intro rfl (And.intro ?_ (And.intro rfl (And.intro ?_ (And.intro ⟨_, _, rfl, rfl, fun i hi => absurd hi (Nat.not_lt_zero _)⟩ (And.intro trivial (trivial)))))))))
      all_goals repeat' (first | exact rfl | exact trivial | exact congrArg (fun z => some (AV.i64 z)) (show (0 : Int) = (smF D (smF D (smF D s).2).2).1 - (((smF D (smF D (smF D s).2).2).1.toNat : Nat) : Int) from by omega) | refine And.intro ?_ ?_)
    rintro ⟨⟨k, t⟩, A⟩ ⟨ht, hAl, hkn, hA, hT⟩
    simp only at ht hAl hkn hA hT
    have t1 := (smF_rdr D).stk t ht
    have t2 := (smF_rdr D).stk _ t1
    have tf := (rgF_rdr D).stk t ht
    repeat (first | refine AWp.seq ?_ | refine AWp.block ?_ | refine AWp.skip ?_)
    refine AWp.region ?_
    intro _
    repeat (first | refine AWp.seq ?_ | refine AWp.block ?_ | refine AWp.skip ?_)
    refine AWp.cond (And.intro (fun h1 => ?_) (fun h1 => ?_))
    · have h1' : (smF D (smF D (smF D s).2).2).1 - (k : Int) < (smF D (smF D (smF D s).2).2).1 := of_decide_eq_true h1
      obtain ⟨k, rfl⟩ : ∃ q, k = q + 1 := ⟨k - 1, by omega⟩
      have hAl2 : (A ++ [(rgF D t).1]).length = A.length + 1 := List.length_append
      have hw : IntKind.i64.wrap ((smF D (smF D (smF D s).2).2).1 - ((k + 1 : Nat) : Int) + 1) = (smF D (smF D (smF D s).2).2).1 - (k : Int) := by rw [wrap_in (by omega) (by omega)]; omega
      repeat (first | refine AWp.seq ?_ | refine AWp.block ?_ | refine AWp.skip ?_)
      refine AWp.region ?_
      refine CallX.lend (m_rSmall hB t ht.1) [(1001, 1001)] rfl (And.intro rfl trivial) rfl ?_
      intro _
      repeat (first | refine AWp.seq ?_ | refine AWp.block ?_ | refine AWp.skip ?_)
      refine AWp.region ?_
      repeat' refine And.intro ?_ ?_
      all_goals first | exact (fun _ => by decide) | decide | exact Nat.le_refl _ | exact rfl | (intro i hi; have e : i = 0 := (by omega); subst e; rfl) | (show (A.length + 1) * _ ≤ _; omega) | skip
      intro _
      refine AWp.rename 58 62 rfl rfl ?_
      refine AWp.weaken (s' := ⟨[(0, .obj 1001 0), (2, .obj 2 0), (3, .obj 3 0), (5, .i64 (smF D (smF D (smF D s).2).2).1), (45, .i64 (smF D (smF D (smF D s).2).2).1), (46, .i64 ((smF D (smF D (smF D s).2).2).1 - ((k + 1 : Nat) : Int)))], [(1001, rdC D (rgF D t).2), (2, .cells [.i64 0, .val (.slice none 0 0), .val (.slice none 0 0)]), (3, .cells [.i64 (smF D s).1, roL 5 Opd.cells (brkF (opF D) (smF D (smF D s).2).1.toNat ((smF D (smF D (smF D s).2).2).2)).1, .sl ⟨62, []⟩ (A ++ [(rgF D t).1]).length]), (62, rowL Rg 127 2 Rg.cells (A ++ [(rgF D t).1]))]⟩) ?_ ?_
      · refine And.intro ?_ (And.intro rfl (And.intro ?_ (And.intro rfl (And.intro ?_ (And.intro (congrArg (fun q : Nat => some (HO.cells [.i64 (smF D s).1, roL 5 Opd.cells (brkF (opF D) (smF D (smF D s).2).1.toNat ((smF D (smF D (smF D s).2).2).2)).1, .sl ⟨62, []⟩ q])) hAl2.symm) (And.intro ?_ (And.intro ⟨_, _, rfl, hAl2.symm, fun i hi => by rw [hAl2] at hi; exact (appL_row (enc := Rg.cells) hi).trans (by rw [← rg_cells hB t]; rfl)⟩ (And.intro trivial trivial))))))))
        all_goals repeat' (first | exact rfl | exact trivial | refine And.intro ?_ ?_)
      repeat (first | refine AWp.seq ?_ | refine AWp.block ?_ | refine AWp.skip ?_)
      refine AWp.region ?_
      intro _
      repeat (first | refine AWp.seq ?_ | refine AWp.block ?_ | refine AWp.skip ?_)
      refine AWp.cond (And.intro (fun h2 => ?_) (fun h2 => ?_))
      · have h2 : (rgF D t).2.sh = true := h2
        rw [brkF_stop h2] at hA hT
        refine AWp.exit ?_
        have hT : (rgF D t).2 = (brkF (rgF D) (smF D (smF D (smF D s).2).2).1.toNat ((brkF (opF D) (smF D (smF D s).2).1.toNat ((smF D (smF D (smF D s).2).2).2)).2)).2 := hT
        rw [← hA, ← hT]
        refine And.intro rfl ?_
        refine And.intro ?_ (And.intro rfl (And.intro ?_ (And.intro rfl (And.intro ?_ (And.intro rfl (And.intro ?_ (And.intro ⟨_, _, rfl, rfl, fun i hi => rfl⟩ (And.intro trivial (trivial)))))))))
        all_goals repeat' (first | exact rfl | exact trivial | refine And.intro ?_ ?_)
      · have h2 : (rgF D t).2.sh = false := h2
        rw [brkF_go h2] at hA hT
        repeat (first | refine AWp.seq ?_ | refine AWp.block ?_ | refine AWp.skip ?_)
        refine AWp.region ?_
        intro _
        refine round_end ((k, (rgF D t).2), A ++ [(rgF D t).1]) ⟨tf, by show (A ++ [(rgF D t).1]).length + k ≤ 255; rw [hAl2]; omega, by show k ≤ (smF D (smF D (smF D s).2).2).1.toNat; omega, by rw [← hA]; exact List.append_assoc .., hT⟩ ?_ (by show k < k + 1; omega)
        refine And.intro ?_ (And.intro rfl (And.intro ?_ (And.intro rfl (And.intro ?_ (And.intro rfl (And.intro ?_ (And.intro ⟨_, _, rfl, rfl, fun i hi => rfl⟩ (And.intro trivial (trivial)))))))))
        all_goals repeat' (first | exact rfl | exact trivial | exact congrArg (fun z => some (AV.i64 z)) hw | refine And.intro ?_ ?_)
    · have h1' : ¬ (smF D (smF D (smF D s).2).2).1 - (k : Int) < (smF D (smF D (smF D s).2).2).1 := of_decide_eq_false h1
      obtain rfl : k = 0 := by omega
      have hA : A = (brkF (rgF D) (smF D (smF D (smF D s).2).2).1.toNat ((brkF (opF D) (smF D (smF D s).2).1.toNat ((smF D (smF D (smF D s).2).2).2)).2)).1 := (List.append_nil A).symm.trans hA
      have hT : t = (brkF (rgF D) (smF D (smF D (smF D s).2).2).1.toNat ((brkF (opF D) (smF D (smF D s).2).1.toNat ((smF D (smF D (smF D s).2).2).2)).2)).2 := hT
      refine AWp.exit ?_
      rw [← hA, ← hT]
      refine And.intro rfl ?_
      refine And.intro ?_ (And.intro rfl (And.intro ?_ (And.intro rfl (And.intro ?_ (And.intro rfl (And.intro ?_ (And.intro ⟨_, _, rfl, rfl, fun i hi => rfl⟩ (And.intro trivial (trivial)))))))))
      all_goals repeat' (first | exact rfl | exact trivial | refine And.intro ?_ ?_)
  rintro _ _ ⟨rfl, hs2⟩
  refine AWp.weaken hs2 ?_
  refine AWp.freeze 62 (fun i => Rg.cells ((brkF (rgF D) (smF D (smF D (smF D s).2).2).1.toNat ((brkF (opF D) (smF D (smF D s).2).1.toNat ((smF D (smF D (smF D s).2).2).2)).2)).1.getD i default)) rfl (fun i hi => rfl) ?_
  repeat (first | refine AWp.seq ?_ | refine AWp.block ?_ | refine AWp.skip ?_)
  refine AWp.region ?_
  intro _
  refine AWp.ret ⟨Or.inl rfl, ?_⟩
  intro _
  refine And.intro rfl (And.intro ?_ (And.intro rfl (And.intro ?_ trivial)))
  all_goals repeat' (first | exact rfl | exact trivial | refine And.intro ?_ ?_)
end Go.Proofs.Ytnbgpgbbfjaomaa

/- wire.Encode and the document's ScriptBytes. Condition: what a script's slices may weigh. -/
import Derived.Test.YtnbgpgbbfjaomaaWir
set_option linter.unusedVariables false
set_option linter.unusedSimpArgs false
/- Contracts of wire's writer: small, wide, list. Condition: not too many bytes. -/
namespace Go.Proofs.Ytnbgpgbbfjaomaa
open Go Go.Abs Go.RowKit

@[reducible] def byC (n : Int) : List AV := [.val (.int .u8 n)]
@[reducible] def rowU (L : List Int) : HO := .row 5 1 L.length (fun i => byC (L.getD i default))
@[reducible] def bytesV (L : List Int) : AV := .ro 1 L.length (fun i => byC (L.getD i default))
@[reducible] def wrC (e n : Nat) : HO := .cells [.sl ⟨e, []⟩ n]
def u8 (n : Int) : Int := IntKind.u8.wrap n
def u8s (l : List Int) : List Int := l.map u8
theorem u8s_len (l : List Int) : (u8s l).length = l.length := by unfold u8s; simp
theorem u8s_take {l : List Int} {j : Nat} (hj : j < l.length) : u8s (l.take (j + 1)) = u8s (l.take j) ++ [u8 (l.getD j default)] := by
  unfold u8s; rw [take_succ_getD hj]; simp
theorem snocB_row {l : List Int} {v : Int} {i : Nat} (hi : i < l.length + 1) : byC ((l ++ [v]).getD i default) = if i < l.length then byC (l.getD i default) else ([[AV.val (Value.int IntKind.u8 v)]].getD (i - l.length) []) := by
  by_cases h : i < l.length
  · rw [if_pos h, List.getD_eq_getElem?_getD, List.getD_eq_getElem?_getD, List.getElem?_append_left h]
  · have e : i = l.length := by omega
    subst e
    rw [if_neg h, Nat.sub_self, List.getD_eq_getElem?_getD]; simp
/-- A wide number as bytes. -/
def four (n : Int) : List Int := [u8 (n / 16777216), u8 (n / 65536), u8 (n / 256), u8 n]
theorem fdiv_pos {n : Int} {d : Int} (hd : 0 ≤ d) : n.fdiv d = n / d := Int.fdiv_eq_ediv_of_nonneg n hd
/-- Small numbers behind how many there are. -/
def cntB (l : List Int) : List Int := u8 l.length :: u8s l
theorem cntB_len (l : List Int) : (cntB l).length = l.length + 1 := by unfold cntB; simp [u8s_len]
end Go.Proofs.Ytnbgpgbbfjaomaa

/- Plain: a script's bytes. Contract of wire's writer's instr. Condition: sizes that may be. -/
namespace Go.Proofs.Ytnbgpgbbfjaomaa
open Go Go.Abs Go.RowKit

theorem u8_eq (n : Int) : u8 n = n % 256 := by unfold u8 IntKind.wrap; simp [IntKind.bits, IntKind.signed]
theorem wrapmod (n : Int) : IntKind.i64.wrap n % 256 = n % 256 := by
  unfold IntKind.wrap
  simp only [IntKind.bits, IntKind.signed, Bool.true_and, decide_eq_true_eq]
  split <;> omega
theorem flat_take {α β : Type} [Inhabited α] {f : α → List β} {l : List α} {j : Nat} (hj : j < l.length) : (l.take (j + 1)).flatMap f = (l.take j).flatMap f ++ f (l.getD j default) := by
  rw [take_succ_getD hj]; simp
theorem flat_len {α β : Type} {f : α → List β} {c : Nat} : ∀ {l : List α}, (∀ a ∈ l, (f a).length ≤ c) → (l.flatMap f).length ≤ c * l.length
  | [], _ => by simp
  | a :: l, h => by
    have h1 := h a (List.mem_cons_self ..)
    have h2 := flat_len (f := f) (c := c) (l := l) fun b hb => h b (List.mem_cons_of_mem _ hb)
    rw [List.flatMap_cons, List.length_append, List.length_cons, Nat.mul_add]; omega
theorem flat_len_take {α β : Type} {f : α → List β} {c : Nat} {l : List α} (h : ∀ a ∈ l, (f a).length ≤ c) (j : Nat) : ((l.take j).flatMap f).length ≤ c * l.length := by
  refine Nat.le_trans (flat_len (c := c) fun a ha => h a (List.mem_of_mem_take ha)) ?_
  exact Nat.mul_le_mul_left _ (by rw [List.length_take]; exact Nat.min_le_right _ _)

def opdB (o : Opd) : List Int := [u8 (o.Kind + (if o.Late = true then 4 else 0) + 8 * o.Limit), u8 o.Value, u8 o.N]
def rgB (r : Rg) : List Int := [u8 (16 * r.Class + r.N)]
def insB (x : Ins) : List Int := [u8 x.Op, u8 x.Operands.length, u8 x.Spoils.length] ++ x.Operands.flatMap opdB ++ x.Spoils.flatMap rgB
def edgB (e : Edg) : List Int := u8 e.Block :: cntB e.Args
def blkB (b : Blk) : List Int := cntB b.Params ++ [u8 b.Instrs.length] ++ b.Instrs.flatMap insB ++ [u8 b.Edges.length] ++ b.Edges.flatMap edgB
def scrB (s : Scr) : List Int := [u8 s.Machine.r0, u8 s.Machine.r1] ++ four s.Seed ++ four s.Steps ++ [u8 s.Junk.length] ++ s.Junk.flatMap four ++ cntB s.Func.Values ++ [u8 s.Func.Blocks.length] ++ s.Func.Blocks.flatMap blkB
theorem insB_len {x : Ins} (h1 : x.Operands.length ≤ 6) (h2 : x.Spoils.length ≤ 20) : (insB x).length ≤ 41 := by
  have a := flat_len (f := opdB) (c := 3) (l := x.Operands) fun _ _ => Nat.le_refl _
  have b := flat_len (f := rgB) (c := 1) (l := x.Spoils) fun _ _ => Nat.le_refl _
  unfold insB
  simp only [List.length_append, List.length_cons, List.length_nil]; omega
theorem opd_u8 {o : Opd} {kd : Int} (hk : kd % 256 = (o.Kind + (if o.Late = true then 4 else 0)) % 256) : u8s [IntKind.i64.wrap (kd + IntKind.i64.wrap (8 * o.Limit)), o.Value, o.N] = opdB o := by
  have h1 := wrapmod (kd + IntKind.i64.wrap (8 * o.Limit))
  have h2 := wrapmod (8 * o.Limit)
  have e : u8 (IntKind.i64.wrap (kd + IntKind.i64.wrap (8 * o.Limit))) = u8 (o.Kind + (if o.Late = true then 4 else 0) + 8 * o.Limit) := by
    rw [u8_eq, u8_eq, h1]
    generalize (if o.Late = true then (4 : Int) else 0) = q at *
    omega
  show [u8 _, u8 _, u8 _] = _
  rw [e]; rfl
theorem rg_u8 (r : Rg) : u8s [IntKind.i64.wrap (IntKind.i64.wrap (16 * r.Class) + r.N)] = rgB r := by
  have h1 := wrapmod (IntKind.i64.wrap (16 * r.Class) + r.N)
  have h2 := wrapmod (16 * r.Class)
  have e : u8 (IntKind.i64.wrap (IntKind.i64.wrap (16 * r.Class) + r.N)) = u8 (16 * r.Class + r.N) := by
    rw [u8_eq, u8_eq, h1]; omega
  show [u8 _] = _
  rw [e]; rfl
end Go.Proofs.Ytnbgpgbbfjaomaa

/- Plain: the bytes of a script, part by part. Contract of wire.Encode. Condition: a script that may be. -/
namespace Go.Proofs.Ytnbgpgbbfjaomaa
open Go Go.Abs Go.RowKit Go.Abs.Gra

/-- The bytes so far: behind the head; the first j junk numbers; the first k blocks. -/
def eC2 (s : Scr) : List Int := u8s [s.Machine.r0, s.Machine.r1] ++ four s.Seed
def eC3 (s : Scr) : List Int := eC2 s ++ four s.Steps
def eC4 (s : Scr) : List Int := eC3 s ++ u8s [(s.Junk.length : Int)]
def eJ (s : Scr) (j : Nat) : List Int := eC4 s ++ (s.Junk.take j).flatMap four
def eC6 (s : Scr) : List Int := eJ s s.Junk.length ++ cntB s.Func.Values
def eC7 (s : Scr) : List Int := eC6 s ++ u8s [(s.Func.Blocks.length : Int)]
def eH (s : Scr) (k : Nat) : List Int := eC7 s ++ (s.Func.Blocks.take k).flatMap blkB
def eB1 (s : Scr) (k : Nat) : List Int := eH s k ++ cntB (s.Func.Blocks.getD k default).Params
def eB2 (s : Scr) (k : Nat) : List Int := eB1 s k ++ u8s [((s.Func.Blocks.getD k default).Instrs.length : Int)]
def eI (s : Scr) (k i : Nat) : List Int := eB2 s k ++ ((s.Func.Blocks.getD k default).Instrs.take i).flatMap insB
def eB4 (s : Scr) (k : Nat) : List Int := eI s k (s.Func.Blocks.getD k default).Instrs.length ++ u8s [((s.Func.Blocks.getD k default).Edges.length : Int)]
def eG (s : Scr) (k j : Nat) : List Int := eB4 s k ++ ((s.Func.Blocks.getD k default).Edges.take j).flatMap edgB
theorem eJ_zero (s : Scr) : eC4 s = eJ s 0 := by unfold eJ; simp
theorem eJ_succ {s : Scr} {j : Nat} (hj : j < s.Junk.length) : eJ s j ++ four (s.Junk.getD j default) = eJ s (j + 1) := by unfold eJ; rw [flat_take hj, List.append_assoc]
theorem eH_zero (s : Scr) : eC7 s = eH s 0 := by unfold eH; simp
theorem eI_zero (s : Scr) (k : Nat) : eB2 s k = eI s k 0 := by unfold eI; simp
theorem eI_succ {s : Scr} {k i : Nat} (hi : i < (s.Func.Blocks.getD k default).Instrs.length) : eI s k i ++ insB ((s.Func.Blocks.getD k default).Instrs.getD i default) = eI s k (i + 1) := by unfold eI; rw [flat_take hi, List.append_assoc]
theorem eG_zero (s : Scr) (k : Nat) : eB4 s k = eG s k 0 := by unfold eG; simp
theorem eG_succ {s : Scr} {k j : Nat} (hj : j < (s.Func.Blocks.getD k default).Edges.length) : eG s k j ++ u8s [((s.Func.Blocks.getD k default).Edges.getD j default).Block] ++ cntB ((s.Func.Blocks.getD k default).Edges.getD j default).Args = eG s k (j + 1) := by unfold eG; rw [flat_take hj, List.append_assoc, List.append_assoc]; rfl
theorem eH_succ {s : Scr} {k : Nat} (hk : k < s.Func.Blocks.length) : eG s k (s.Func.Blocks.getD k default).Edges.length = eH s (k + 1) := by
  unfold eG eB4 eI eB2 eB1 eH
  rw [List.take_length, List.take_length, flat_take hk]
  unfold blkB
  simp [u8s]
theorem eH_all (s : Scr) : eH s s.Func.Blocks.length = scrB s := by
  unfold eH eC7 eC6 eJ eC4 eC3 eC2 scrB
  rw [List.take_length, List.take_length]
  simp [u8s]
theorem four_len (n : Int) : (four n).length = 4 := rfl
/-- What a script that may be weighs as bytes. -/
structure ScrSz (s : Scr) : Prop where
  z : SizOk s.Func
  junk : s.Junk.length ≤ 64
  args : ∀ k j, k < s.Func.Blocks.length → j < (s.Func.Blocks.getD k default).Edges.length → ((s.Func.Blocks.getD k default).Edges.getD j default).Args.length ≤ 5
  seed : 0 ≤ s.Seed
  steps : 0 ≤ s.Steps
  jpos : ∀ j, j < s.Junk.length → 0 ≤ s.Junk.getD j default
theorem edg_len {s : Scr} (h : ScrSz s) {k : Nat} (hk : k < s.Func.Blocks.length) : ∀ a ∈ (s.Func.Blocks.getD k default).Edges, (edgB a).length ≤ 7 := by
  intro a ha
  obtain ⟨j, hj, rfl⟩ := getD_of_mem ha
  have := h.args k j hk hj
  unfold edgB
  rw [List.length_cons, cntB_len]; omega
theorem ins_len {s : Scr} (h : ScrSz s) {k : Nat} (hk : k < s.Func.Blocks.length) : ∀ a ∈ (s.Func.Blocks.getD k default).Instrs, (insB a).length ≤ 41 := by
  intro a ha
  obtain ⟨j, hj, rfl⟩ := getD_of_mem ha
  exact insB_len (h.z.ops k j hk hj) (h.z.spo k j hk hj)
theorem blk_len {s : Scr} (h : ScrSz s) : ∀ a ∈ s.Func.Blocks, (blkB a).length ≤ 2000 := by
  intro a ha
  obtain ⟨k, hk, rfl⟩ := getD_of_mem ha
  have h1 := flat_len (ins_len h hk)
  have h2 := flat_len (edg_len h hk)
  have h3 := h.z.instrs k hk
  have h4 := h.z.edges k hk
  have h5 := h.z.params k hk
  unfold blkB
  simp only [List.length_append, List.length_cons, List.length_nil, cntB_len]; omega
theorem eJ_len {s : Scr} (h : ScrSz s) (j : Nat) : (eJ s j).length ≤ 300 := by
  have h1 := flat_len_take (f := four) (c := 4) (l := s.Junk) (fun _ _ => Nat.le_refl _) j
  have := h.junk
  unfold eJ eC4 eC3 eC2
  simp only [List.length_append, u8s_len, four_len, List.length_cons, List.length_nil]; omega
theorem eH_len {s : Scr} (h : ScrSz s) (k : Nat) : (eH s k).length ≤ 40000 := by
  have h1 := flat_len_take (blk_len h) k
  have h2 := eJ_len h s.Junk.length
  have h3 := h.z.values
  have h4 := h.z.blocks
  unfold eH eC7 eC6
  simp only [List.length_append, u8s_len, cntB_len, List.length_cons, List.length_nil]; omega
theorem eI_len {s : Scr} (h : ScrSz s) {k : Nat} (hk : k < s.Func.Blocks.length) (i : Nat) : (eI s k i).length ≤ 50000 := by
  have h1 := flat_len_take (ins_len h hk) i
  have h2 := eH_len h k
  have h3 := h.z.instrs k hk
  have h5 := h.z.params k hk
  unfold eI eB2 eB1
  simp only [List.length_append, u8s_len, cntB_len, List.length_cons, List.length_nil]; omega
theorem eG_len {s : Scr} (h : ScrSz s) {k : Nat} (hk : k < s.Func.Blocks.length) (j : Nat) : (eG s k j).length ≤ 60000 := by
  have h1 := flat_len_take (edg_len h hk) j
  have h2 := eI_len h hk (s.Func.Blocks.getD k default).Instrs.length
  have h3 := h.z.edges k hk
  unfold eG eB4
  simp only [List.length_append, u8s_len, List.length_cons, List.length_nil]; omega

end Go.Proofs.Ytnbgpgbbfjaomaa

/- Contracts of the document's fourBytes, addBytes, counted, instrBytes. Condition: sizes that may be. -/
namespace Go.Proofs.Ytnbgpgbbfjaomaa
open Go Go.Abs Go.RowKit Go.Abs.Gra

theorem appB_row {L M : List Int} {i : Nat} (hi : i < L.length + M.length) : byC ((L ++ M).getD i default) = if i < L.length then byC (L.getD i default) else (M.map byC).getD (i - L.length) [] := by
  by_cases h : i < L.length
  · rw [if_pos h, List.getD_eq_getElem?_getD, List.getD_eq_getElem?_getD, List.getElem?_append_left h]
  · rw [if_neg h, List.getD_eq_getElem?_getD, List.getElem?_append_right (by omega), List.getD_eq_getElem?_getD, List.getElem?_map, List.getElem?_eq_getElem (show i - L.length < M.length by omega)]
    rfl
theorem litB_row {M : List Int} {i : Nat} (hi : i < M.length) : byC (M.getD i default) = (M.map byC).getD i [] := by
  simp [List.getD_eq_getElem?_getD, hi]
theorem four_eq {n : Int} (hn : 0 ≤ n ∧ n ≤ 1073741824) : four n = u8s [IntKind.i64.wrap (n.tdiv 16777216), (IntKind.i64.wrap (n.tdiv 65536)).tmod 256, (IntKind.i64.wrap (n.tdiv 256)).tmod 256, n.tmod 256] := by
  rw [Int.tdiv_eq_ediv_of_nonneg hn.1, Int.tdiv_eq_ediv_of_nonneg hn.1, Int.tdiv_eq_ediv_of_nonneg hn.1]
  rw [wrap_in (by omega) (by omega), wrap_in (by omega) (by omega), wrap_in (by omega) (by omega)]
  rw [Int.tmod_eq_emod_of_nonneg (by omega), Int.tmod_eq_emod_of_nonneg (by omega), Int.tmod_eq_emod_of_nonneg hn.1]
  have e : ∀ a : Int, u8 (a % 256) = u8 a := fun a => by rw [u8_eq, u8_eq]; omega
  show _ = [u8 _, u8 _, u8 _, u8 _]
  rw [e, e, e]; rfl
theorem take_snoc {l : List Int} {j : Nat} (hj : j < l.length) : l.take (j + 1) = l.take j ++ [l.getD j default] := take_succ_getD hj
theorem opd_u82 {o : Opd} {kd : Int} (hk : kd % 256 = (o.Kind + (if o.Late = true then 4 else 0) + 8 * o.Limit) % 256) : u8s [kd, o.Value, o.N] = opdB o := by
  have e : u8 kd = u8 (o.Kind + (if o.Late = true then 4 else 0) + 8 * o.Limit) := by rw [u8_eq, u8_eq, hk]
  show [u8 _, u8 _, u8 _] = _
  rw [e]; rfl
def iO (x : Ins) (k : Nat) : List Int := u8s [x.Op, (x.Operands.length : Int), (x.Spoils.length : Int)] ++ (x.Operands.take k).flatMap opdB
def iS (x : Ins) (k : Nat) : List Int := iO x x.Operands.length ++ (x.Spoils.take k).flatMap rgB
theorem iO_len (x : Ins) (k : Nat) : (iO x k).length ≤ 3 + 3 * x.Operands.length := by
  have := flat_len_take (f := opdB) (c := 3) (l := x.Operands) (fun _ _ => Nat.le_refl _) k
  unfold iO; rw [List.length_append, u8s_len]; simp only [List.length_cons, List.length_nil]; omega
theorem iS_len (x : Ins) (k : Nat) : (iS x k).length ≤ 3 + 3 * x.Operands.length + x.Spoils.length := by
  have := flat_len_take (f := rgB) (c := 1) (l := x.Spoils) (fun _ _ => Nat.le_refl _) k
  have := iO_len x x.Operands.length
  unfold iS; rw [List.length_append]; omega
end Go.Proofs.Ytnbgpgbbfjaomaa

/- Contract of the document's ScriptBytes; what both refuse. Condition: what the script's slices may weigh. -/
namespace Go.Proofs.Ytnbgpgbbfjaomaa
open Go Go.Abs Go.RowKit Go.Abs.Gra


theorem ok_junk {s : Scr} (h0 : scrF s = 0) : ScrSz s ∧ s.Seed ≤ 1073741824 ∧ s.Steps ≤ 1073741824 ∧ ∀ j, j < s.Junk.length → 0 ≤ s.Junk.getD j default ∧ s.Junk.getD j default ≤ 1073741824 := by
  have h1 : flwF s.Func s.Machine = 0 := Classical.byContradiction fun hn => hn (by rw [scrF_1 hn] at h0; exact h0)
  have h2 : ¬ (s.Seed < 0 ∨ 1073741824 < s.Seed ∨ s.Steps < 0 ∨ 5000 < s.Steps) := fun hn => by rw [scrF_2 h1 hn] at h0; cases h0
  have h3 : ¬ 64 < s.Junk.length := fun hn => by rw [scrF_3 h1 h2 hn] at h0; cases h0
  have h4 : firstF (jnkG s.Junk) s.Junk.length = 0 := by rw [scrF_4 h1 h2 h3 rfl] at h0; exact h0
  have h5 : ∀ j, j < s.Junk.length → 0 ≤ s.Junk.getD j default ∧ s.Junk.getD j default ≤ 1073741824 := fun j hj => by
    have := firstF_zero h4 j hj
    unfold jnkG at this
    split at this
    · cases this
    · omega
  have hC := chkd_of (show chkF s.Func s.Machine = 0 from Classical.byContradiction fun hn => by rw [flwF_1 hn] at h1; exact hn h1)
  exact ⟨⟨hC.e.siz, by omega, fun k j hk hj => hC.argl k j hk hj, by omega, by omega, fun j hj => (h5 j hj).1⟩, by omega, by omega, h5⟩
end Go.Proofs.Ytnbgpgbbfjaomaa

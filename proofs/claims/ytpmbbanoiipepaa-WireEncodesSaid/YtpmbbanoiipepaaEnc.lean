/- wire.Encode and the document's ScriptBytes. Condition: what a script's slices may weigh. -/
import Derived.Test.YtpmbbanoiipepaaWir
set_option linter.unusedVariables false
set_option linter.unusedSimpArgs false
/- Contracts of wire's writer: small, wide, list. Condition: not too many bytes. -/
namespace Go.Proofs.Ytpmbbanoiipepaa
open Go Go.Abs Go.RowKit

@[reducible] def byC (n : Int) : List AV := [.val (.int .u8 n)]
@[reducible] def rowU (L : List Int) : HO := .row 5 1 L.length (fun i => byC (L.getD i default))
@[reducible] def bytesV (L : List Int) : AV := .ro 1 L.length (fun i => byC (L.getD i default))
@[reducible] def wrC (e n : Nat) : HO := .cells [.sl ⟨e, []⟩ n]
def u8 (n : Int) : Int := IntKind.u8.wrap n
def u8s (l : List Int) : List Int := l.map u8
theorem u8s_len (l : List Int) : (u8s l).length = l.length := by unfold u8s; simp
theorem u8s_take {l : List Int} {j : Nat} (hj : j < l.length) : u8s (l.take (j + 1)) = u8s (l.take j) ++ [u8 (l.getD j default)] := by
  unfold u8s; rw [take_succ_getD hj]; simp
theorem snocB_row {l : List Int} {v : Int} {i : Nat} (hi : i < l.length + 1) : byC ((l ++ [v]).getD i default) = if i < l.length then byC (l.getD i default) else ([[AV.val (Value.int IntKind.u8 v)]].getD (i - l.length) []) := by
  by_cases h : i < l.length
  · rw [if_pos h, List.getD_eq_getElem?_getD, List.getD_eq_getElem?_getD, List.getElem?_append_left h]
  · have e : i = l.length := by omega
    subst e
    rw [if_neg h, Nat.sub_self, List.getD_eq_getElem?_getD]; simp
set_option maxHeartbeats 1000000 in
theorem m_small (l : List Int) (r : Nat → List AV) (hr : ∀ i, i < l.length → r i = intC (l.getD i default)) (L : List Int) (hL : L.length + l.length ≤ 100000000) :
    ACallM B.P 54 ⟨[.obj 1001 0, .ro 1 l.length r], [(1001, wrC 1002 L.length), (1002, rowU L)], .tup [], [(1001, wrC 101 (L ++ u8s l).length), (101, rowU (L ++ u8s l))]⟩ := by
  have hlm : l.length ≤ maxLen := by unfold maxLen; omega
  refine ACallM.enter B _ _ Try.func54 rfl rfl Try.ntmps54 Try.results54 rfl ?_ fun hreal => ?_
  · refine And.intro ?_ (And.intro ?_ ?_)
    all_goals repeat' (first | exact rfl | exact trivial | refine And.intro ?_ ?_)
  clear hreal
  refine AWp.reread 1 (ints l) rfl (fun F τ w v h => rep_row hr h) ?_
  refine AWp.rename 1002 101 rfl rfl ?_
  repeat (first | refine AWp.seq ?_ | refine AWp.block ?_ | refine AWp.skip ?_)
  refine AWp.region ?_
  intro _
  repeat (first | refine AWp.seq ?_ | refine AWp.block ?_ | refine AWp.skip ?_)
  refine AWp.loop (fun j : Nat => ⟨[(0, .obj 1001 0), (6, ints l), (7, .i64 l.length), (8, .i64 j)], [(1001, wrC 101 (L ++ u8s (l.take j)).length), (101, rowU (L ++ u8s (l.take j)))]⟩) (fun j => j ≤ l.length) (fun j => l.length - j) 0 (Nat.zero_le _) ?_ ?_
  · have e : L = L ++ u8s (l.take 0) := by simp [u8s]
    refine And.intro ?_ (And.intro (congrArg (fun M : List Int => some (wrC 101 M.length)) e) (And.intro ?_ (And.intro ⟨_, _, rfl, congrArg List.length e, fun i hi => congrArg (fun M : List Int => byC (M.getD i default)) e.symm⟩ (And.intro trivial trivial))))
    all_goals repeat' (first | exact rfl | exact trivial | refine And.intro ?_ ?_)
  intro j hj
  repeat (first | refine AWp.seq ?_ | refine AWp.block ?_ | refine AWp.skip ?_)
  refine AWp.region ?_
  intro _
  repeat (first | refine AWp.seq ?_ | refine AWp.block ?_ | refine AWp.skip ?_)
  refine AWp.cond (And.intro (fun h1 => ?_) (fun h1 => ?_))
  · have hj' : j < l.length := Int.ofNat_lt.1 (of_decide_eq_true h1)
    have hS : L ++ u8s (l.take (j + 1)) = (L ++ u8s (l.take j)) ++ [u8 (l.getD j default)] := by rw [u8s_take hj', List.append_assoc]
    have hSl : (L ++ u8s (l.take (j + 1))).length = (L ++ u8s (l.take j)).length + 1 := by rw [hS]; exact List.length_append
    have hlen : (L ++ u8s (l.take j)).length ≤ 100000000 := by rw [List.length_append, u8s_len, List.length_take]; omega
    repeat (first | refine AWp.seq ?_ | refine AWp.block ?_ | refine AWp.skip ?_)
    refine AWp.region ?_
    refine And.intro (fun _ => And.intro (Int.natCast_nonneg _) (Int.ofNat_lt.2 hj')) ?_
    intro _
    repeat (first | refine AWp.seq ?_ | refine AWp.block ?_ | refine AWp.skip ?_)
    refine AWp.region ?_
    refine And.intro (Nat.le_refl _) (And.intro (fun i hi => ?_) (And.intro rfl (And.intro (by omega) ?_)))
    · have e : i = 0 := by omega
      subst e; rfl
    intro _
    refine AWp.rename 20 101 rfl rfl ?_
    repeat (first | refine AWp.seq ?_ | refine AWp.block ?_ | refine AWp.skip ?_)
    refine AWp.region ?_
    intro _
    refine round_end (j + 1) hj' ?_ (by omega)
    refine And.intro ?_ (And.intro (congrArg (fun q : Nat => some (HO.cells [AV.sl 101 q])) hSl.symm) (And.intro ?_ (And.intro ⟨_, _, rfl, hSl.symm, fun i hi => ?_⟩ (And.intro trivial trivial))))
    · repeat' (first | exact rfl | exact trivial | exact congrArg (fun z => some (AV.i64 z)) (wrap_succ hj' hlm) | refine And.intro ?_ ?_)
    · repeat' (first | exact rfl | exact trivial | refine And.intro ?_ ?_)
    · rw [hSl] at hi
      rw [hS]
      exact snocB_row hi
  have hj3 : ¬ (j : Int) < l.length := of_decide_eq_false h1
  have hjl : j = l.length := by omega
  subst hjl
  have e : L ++ u8s (l.take l.length) = L ++ u8s l := by rw [List.take_length]
  refine AWp.exit ?_
  refine ⟨Or.inr rfl, ?_⟩
  intro _
  refine And.intro rfl (And.intro trivial (And.intro (congrArg (fun M : List Int => some (wrC 101 M.length)) e) (And.intro ?_ (And.intro ⟨_, _, rfl, congrArg List.length e, fun i hi => congrArg (fun M : List Int => byC (M.getD i default)) e.symm⟩ (And.intro trivial trivial)))))
  all_goals repeat' (first | exact rfl | exact trivial | refine And.intro ?_ ?_)
set_option maxHeartbeats 1000000 in
theorem m_smallO (l : List Int) (L : List Int) (hL : L.length + l.length ≤ 100000000) :
    ACallM B.P 54 ⟨[.obj 1001 0, .sl 1003 l.length], [(1001, wrC 1002 L.length), (1002, rowU L), (1003, .row 3 1 l.length (fun i => (l.map intC).getD i []))], .tup [], [(1001, wrC 101 (L ++ u8s l).length), (101, rowU (L ++ u8s l))]⟩ := by
  have hlm : l.length ≤ maxLen := by unfold maxLen; omega
  have hr : ∀ i, i < l.length → intC (l.getD i default) = (l.map intC).getD i [] := fun i hi => by simp [List.getD_eq_getElem?_getD, hi]
  refine ACallM.enter B _ _ Try.func54 rfl rfl Try.ntmps54 Try.results54 rfl ?_ fun hreal => ?_
  · refine And.intro ?_ (And.intro ?_ ?_)
    all_goals repeat' (first | exact rfl | exact trivial | refine And.intro ?_ ?_)
  clear hreal
  refine AWp.freeze 1003 (fun i => intC (l.getD i default)) rfl hr ?_
  refine AWp.rename 1002 101 rfl rfl ?_
  repeat (first | refine AWp.seq ?_ | refine AWp.block ?_ | refine AWp.skip ?_)
  refine AWp.region ?_
  intro _
  repeat (first | refine AWp.seq ?_ | refine AWp.block ?_ | refine AWp.skip ?_)
  refine AWp.loop (fun j : Nat => ⟨[(0, .obj 1001 0), (6, ints l), (7, .i64 l.length), (8, .i64 j)], [(1001, wrC 101 (L ++ u8s (l.take j)).length), (101, rowU (L ++ u8s (l.take j)))]⟩) (fun j => j ≤ l.length) (fun j => l.length - j) 0 (Nat.zero_le _) ?_ ?_
  · have e : L = L ++ u8s (l.take 0) := by simp [u8s]
    refine And.intro ?_ (And.intro (congrArg (fun M : List Int => some (wrC 101 M.length)) e) (And.intro ?_ (And.intro ⟨_, _, rfl, congrArg List.length e, fun i hi => congrArg (fun M : List Int => byC (M.getD i default)) e.symm⟩ (And.intro trivial trivial))))
    all_goals repeat' (first | exact rfl | exact trivial | refine And.intro ?_ ?_)
  intro j hj
  repeat (first | refine AWp.seq ?_ | refine AWp.block ?_ | refine AWp.skip ?_)
  refine AWp.region ?_
  intro _
  repeat (first | refine AWp.seq ?_ | refine AWp.block ?_ | refine AWp.skip ?_)
  refine AWp.cond (And.intro (fun h1 => ?_) (fun h1 => ?_))
  · have hj' : j < l.length := Int.ofNat_lt.1 (of_decide_eq_true h1)
    have hS : L ++ u8s (l.take (j + 1)) = (L ++ u8s (l.take j)) ++ [u8 (l.getD j default)] := by rw [u8s_take hj', List.append_assoc]
    have hSl : (L ++ u8s (l.take (j + 1))).length = (L ++ u8s (l.take j)).length + 1 := by rw [hS]; exact List.length_append
    have hlen : (L ++ u8s (l.take j)).length ≤ 100000000 := by rw [List.length_append, u8s_len, List.length_take]; omega
    repeat (first | refine AWp.seq ?_ | refine AWp.block ?_ | refine AWp.skip ?_)
    refine AWp.region ?_
    refine And.intro (fun _ => And.intro (Int.natCast_nonneg _) (Int.ofNat_lt.2 hj')) ?_
    intro _
    repeat (first | refine AWp.seq ?_ | refine AWp.block ?_ | refine AWp.skip ?_)
    refine AWp.region ?_
    refine And.intro (Nat.le_refl _) (And.intro (fun i hi => ?_) (And.intro rfl (And.intro (by omega) ?_)))
    · have e : i = 0 := by omega
      subst e; rfl
    intro _
    refine AWp.rename 20 101 rfl rfl ?_
    repeat (first | refine AWp.seq ?_ | refine AWp.block ?_ | refine AWp.skip ?_)
    refine AWp.region ?_
    intro _
    refine round_end (j + 1) hj' ?_ (by omega)
    refine And.intro ?_ (And.intro (congrArg (fun q : Nat => some (HO.cells [AV.sl 101 q])) hSl.symm) (And.intro ?_ (And.intro ⟨_, _, rfl, hSl.symm, fun i hi => ?_⟩ (And.intro trivial trivial))))
    · repeat' (first | exact rfl | exact trivial | exact congrArg (fun z => some (AV.i64 z)) (wrap_succ hj' hlm) | refine And.intro ?_ ?_)
    · repeat' (first | exact rfl | exact trivial | refine And.intro ?_ ?_)
    · rw [hSl] at hi
      rw [hS]
      exact snocB_row hi
  have hj3 : ¬ (j : Int) < l.length := of_decide_eq_false h1
  have hjl : j = l.length := by omega
  subst hjl
  have e : L ++ u8s (l.take l.length) = L ++ u8s l := by rw [List.take_length]
  refine AWp.exit ?_
  refine ⟨Or.inr rfl, ?_⟩
  intro _
  refine And.intro rfl (And.intro trivial (And.intro (congrArg (fun M : List Int => some (wrC 101 M.length)) e) (And.intro ?_ (And.intro ⟨_, _, rfl, congrArg List.length e, fun i hi => congrArg (fun M : List Int => byC (M.getD i default)) e.symm⟩ (And.intro trivial trivial)))))
  all_goals repeat' (first | exact rfl | exact trivial | refine And.intro ?_ ?_)
/-- A wide number as bytes. -/
def four (n : Int) : List Int := [u8 (n / 16777216), u8 (n / 65536), u8 (n / 256), u8 n]
theorem fdiv_pos {n : Int} {d : Int} (hd : 0 ≤ d) : n.fdiv d = n / d := Int.fdiv_eq_ediv_of_nonneg n hd
set_option maxHeartbeats 1000000 in
theorem m_wide (n : Int) (L : List Int) (hL : L.length + 4 ≤ 100000000) :
    ACallM B.P 55 ⟨[.obj 1001 0, .i64 n], [(1001, wrC 1002 L.length), (1002, rowU L)], .tup [], [(1001, wrC 101 (L ++ four n).length), (101, rowU (L ++ four n))]⟩ := by
  have hf : four n = u8s [n.fdiv 16777216, n.fdiv 65536, n.fdiv 256, n] := by
    rw [fdiv_pos (by decide), fdiv_pos (by decide), fdiv_pos (by decide)]; rfl
  rw [hf]
  refine ACallM.enter B _ _ Try.func55 rfl rfl Try.ntmps55 Try.results55 rfl ?_ fun hreal => ?_
  · refine And.intro ?_ (And.intro ?_ ?_)
    all_goals repeat' (first | exact rfl | exact trivial | refine And.intro ?_ ?_)
  clear hreal
  repeat (first | refine AWp.seq ?_ | refine AWp.block ?_ | refine AWp.skip ?_)
  refine AWp.region ?_
  repeat' refine And.intro ?_ ?_
  all_goals first | exact (fun _ => by decide) | decide | skip
  refine CallX.lend (m_smallO [n.fdiv 16777216, n.fdiv 65536, n.fdiv 256, n] L hL) [(1001, 1001), (1002, 1002), (1003, 12), (101, 101)] rfl (And.intro rfl (And.intro rfl (And.intro rfl trivial))) rfl ?_
  intro _
  refine ⟨Or.inr rfl, ?_⟩
  intro _
  refine And.intro rfl (And.intro trivial (And.intro rfl (And.intro ?_ (And.intro ⟨_, _, rfl, rfl, fun i hi => rfl⟩ (And.intro trivial trivial)))))
  all_goals repeat' (first | exact rfl | exact trivial | refine And.intro ?_ ?_)
/-- Small numbers behind how many there are. -/
def cntB (l : List Int) : List Int := u8 l.length :: u8s l
theorem cntB_len (l : List Int) : (cntB l).length = l.length + 1 := by unfold cntB; simp [u8s_len]
set_option maxHeartbeats 1000000 in
theorem m_list (l : List Int) (L : List Int) (hL : L.length + l.length + 1 ≤ 100000000) :
    ACallM B.P 56 ⟨[.obj 1001 0, ints l], [(1001, wrC 1002 L.length), (1002, rowU L)], .tup [], [(1001, wrC 101 (L ++ cntB l).length), (101, rowU (L ++ cntB l))]⟩ := by
  have hc : L ++ cntB l = (L ++ u8s [(l.length : Int)]) ++ u8s l := by rw [List.append_assoc]; rfl
  rw [hc]
  refine ACallM.enter B _ _ Try.func56 rfl rfl Try.ntmps56 Try.results56 rfl ?_ fun hreal => ?_
  · refine And.intro ?_ (And.intro ?_ ?_)
    all_goals repeat' (first | exact rfl | exact trivial | refine And.intro ?_ ?_)
  clear hreal
  repeat (first | refine AWp.seq ?_ | refine AWp.block ?_ | refine AWp.skip ?_)
  refine AWp.region ?_
  refine CallX.lend (m_smallO [(l.length : Int)] L (by show L.length + 1 ≤ _; omega)) [(1001, 1001), (1002, 1002), (1003, 7), (101, 101)] rfl (And.intro rfl (And.intro rfl (And.intro rfl trivial))) rfl ?_
  intro _
  refine AWp.rename 101 61 rfl rfl ?_
  repeat (first | refine AWp.seq ?_ | refine AWp.block ?_ | refine AWp.skip ?_)
  refine AWp.region ?_
  refine CallX.lend (m_small l (fun i => intC (l.getD i default)) (fun i hi => rfl) (L ++ u8s [(l.length : Int)]) (by simp [u8s_len]; omega)) [(1001, 1001), (1002, 61), (101, 101)] rfl (And.intro rfl (And.intro rfl trivial)) rfl ?_
  intro _
  refine ⟨Or.inr rfl, ?_⟩
  intro _
  refine And.intro rfl (And.intro trivial (And.intro rfl (And.intro ?_ (And.intro ⟨_, _, rfl, rfl, fun i hi => rfl⟩ (And.intro trivial trivial)))))
  all_goals repeat' (first | exact rfl | exact trivial | refine And.intro ?_ ?_)
end Go.Proofs.Ytpmbbanoiipepaa

/- Plain: a script's bytes. Contract of wire's writer's instr. Condition: sizes that may be. -/
namespace Go.Proofs.Ytpmbbanoiipepaa
open Go Go.Abs Go.RowKit

theorem u8_eq (n : Int) : u8 n = n % 256 := by unfold u8 IntKind.wrap; simp [IntKind.bits, IntKind.signed]
theorem wrapmod (n : Int) : IntKind.i64.wrap n % 256 = n % 256 := by
  unfold IntKind.wrap
  simp only [IntKind.bits, IntKind.signed, Bool.true_and, decide_eq_true_eq]
  split <;> omega
theorem flat_take {α β : Type} [Inhabited α] {f : α → List β} {l : List α} {j : Nat} (hj : j < l.length) : (l.take (j + 1)).flatMap f = (l.take j).flatMap f ++ f (l.getD j default) := by
  rw [take_succ_getD hj]; simp
theorem flat_len {α β : Type} {f : α → List β} {c : Nat} : ∀ {l : List α}, (∀ a ∈ l, (f a).length ≤ c) → (l.flatMap f).length ≤ c * l.length
  | [], _ => by simp
  | a :: l, h => by
    have h1 := h a (List.mem_cons_self ..)
    have h2 := flat_len (f := f) (c := c) (l := l) fun b hb => h b (List.mem_cons_of_mem _ hb)
    rw [List.flatMap_cons, List.length_append, List.length_cons, Nat.mul_add]; omega
theorem flat_len_take {α β : Type} {f : α → List β} {c : Nat} {l : List α} (h : ∀ a ∈ l, (f a).length ≤ c) (j : Nat) : ((l.take j).flatMap f).length ≤ c * l.length := by
  refine Nat.le_trans (flat_len (c := c) fun a ha => h a (List.mem_of_mem_take ha)) ?_
  exact Nat.mul_le_mul_left _ (by rw [List.length_take]; exact Nat.min_le_right _ _)

def opdB (o : Opd) : List Int := [u8 (o.Kind + (if o.Late = true then 4 else 0) + 8 * o.Limit), u8 o.Value, u8 o.N]
def rgB (r : Rg) : List Int := [u8 (16 * r.Class + r.N)]
def insB (x : Ins) : List Int := [u8 x.Op, u8 x.Operands.length, u8 x.Spoils.length] ++ x.Operands.flatMap opdB ++ x.Spoils.flatMap rgB
def edgB (e : Edg) : List Int := u8 e.Block :: cntB e.Args
def blkB (b : Blk) : List Int := cntB b.Params ++ [u8 b.Instrs.length] ++ b.Instrs.flatMap insB ++ [u8 b.Edges.length] ++ b.Edges.flatMap edgB
def scrB (s : Scr) : List Int := [u8 s.Machine.r0, u8 s.Machine.r1] ++ four s.Seed ++ four s.Steps ++ [u8 s.Junk.length] ++ s.Junk.flatMap four ++ cntB s.Func.Values ++ [u8 s.Func.Blocks.length] ++ s.Func.Blocks.flatMap blkB
theorem insB_len {x : Ins} (h1 : x.Operands.length ≤ 6) (h2 : x.Spoils.length ≤ 20) : (insB x).length ≤ 41 := by
  have a := flat_len (f := opdB) (c := 3) (l := x.Operands) fun _ _ => Nat.le_refl _
  have b := flat_len (f := rgB) (c := 1) (l := x.Spoils) fun _ _ => Nat.le_refl _
  unfold insB
  simp only [List.length_append, List.length_cons, List.length_nil]; omega
theorem opd_u8 {o : Opd} {kd : Int} (hk : kd % 256 = (o.Kind + (if o.Late = true then 4 else 0)) % 256) : u8s [IntKind.i64.wrap (kd + IntKind.i64.wrap (8 * o.Limit)), o.Value, o.N] = opdB o := by
  have h1 := wrapmod (kd + IntKind.i64.wrap (8 * o.Limit))
  have h2 := wrapmod (8 * o.Limit)
  have e : u8 (IntKind.i64.wrap (kd + IntKind.i64.wrap (8 * o.Limit))) = u8 (o.Kind + (if o.Late = true then 4 else 0) + 8 * o.Limit) := by
    rw [u8_eq, u8_eq, h1]
    generalize (if o.Late = true then (4 : Int) else 0) = q at *
    omega
  show [u8 _, u8 _, u8 _] = _
  rw [e]; rfl
theorem rg_u8 (r : Rg) : u8s [IntKind.i64.wrap (IntKind.i64.wrap (16 * r.Class) + r.N)] = rgB r := by
  have h1 := wrapmod (IntKind.i64.wrap (16 * r.Class) + r.N)
  have h2 := wrapmod (16 * r.Class)
  have e : u8 (IntKind.i64.wrap (IntKind.i64.wrap (16 * r.Class) + r.N)) = u8 (16 * r.Class + r.N) := by
    rw [u8_eq, u8_eq, h1]; omega
  show [u8 _] = _
  rw [e]; rfl
set_option maxHeartbeats 2000000 in
theorem m_wInstr (x : Ins) (h1 : x.Operands.length ≤ 6) (h2 : x.Spoils.length ≤ 20) (L : List Int) (hL : L.length + 100 ≤ 100000000) :
    ACallM B.P 57 ⟨[.obj 1001 0, x.av], [(1001, wrC 1002 L.length), (1002, rowU L)], .tup [], [(1001, wrC 101 (L ++ insB x).length), (101, rowU (L ++ insB x))]⟩ := by
  have hol : x.Operands.length ≤ maxLen := by unfold maxLen; omega
  have hsl : x.Spoils.length ≤ maxLen := by unfold maxLen; omega
  refine ACallM.enter B _ _ Try.func57 rfl rfl Try.ntmps57 Try.results57 rfl ?_ fun hreal => ?_
  · refine And.intro ?_ (And.intro ?_ ?_)
    all_goals repeat' (first | exact rfl | exact trivial | refine And.intro ?_ ?_)
  clear hreal
  repeat (first | refine AWp.seq ?_ | refine AWp.block ?_ | refine AWp.skip ?_)
  refine AWp.region ?_
  intro _
  refine AWp.freezeObj 3 rfl rfl ?_
  repeat (first | refine AWp.seq ?_ | refine AWp.block ?_ | refine AWp.skip ?_)
  refine AWp.region ?_
  refine CallX.lend (m_smallO [x.Op, (x.Operands.length : Int), (x.Spoils.length : Int)] L (by show L.length + 3 ≤ _; omega)) [(1001, 1001), (1002, 1002), (1003, 18), (101, 101)] rfl (And.intro rfl (And.intro rfl (And.intro rfl trivial))) rfl ?_
  intro _
  refine AWp.rename 101 61 rfl rfl ?_
  repeat (first | refine AWp.seq ?_ | refine AWp.block ?_ | refine AWp.skip ?_)
  refine AWp.region ?_
  intro _
  repeat (first | refine AWp.seq ?_ | refine AWp.block ?_ | refine AWp.skip ?_)
  refine AWp.loop (fun k : Nat => ⟨[(0, .obj 1001 0), (3, .ptr x.cells), (21, roL 5 Opd.cells x.Operands), (22, .i64 x.Operands.length), (23, .i64 k)], [(1001, wrC 61 (L ++ u8s [x.Op, (x.Operands.length : Int), (x.Spoils.length : Int)] ++ (x.Operands.take k).flatMap opdB).length), (61, rowU (L ++ u8s [x.Op, (x.Operands.length : Int), (x.Spoils.length : Int)] ++ (x.Operands.take k).flatMap opdB))]⟩) (fun k => k ≤ x.Operands.length) (fun k => x.Operands.length - k) 0 (Nat.zero_le _) ?_ ?_
  · have e : L ++ u8s [x.Op, (x.Operands.length : Int), (x.Spoils.length : Int)] = L ++ u8s [x.Op, (x.Operands.length : Int), (x.Spoils.length : Int)] ++ (x.Operands.take 0).flatMap opdB := by simp
    refine And.intro ?_ (And.intro (congrArg (fun M : List Int => some (wrC 61 M.length)) e) (And.intro ?_ (And.intro ⟨_, _, rfl, congrArg List.length e, fun i hi => congrArg (fun M : List Int => byC (M.getD i default)) e.symm⟩ (And.intro trivial trivial))))
    all_goals repeat' (first | exact rfl | exact trivial | refine And.intro ?_ ?_)
  intro k hk
  have hM : ∀ k, (L ++ u8s [x.Op, (x.Operands.length : Int), (x.Spoils.length : Int)] ++ (x.Operands.take k).flatMap opdB).length ≤ L.length + 21 := fun k => by
    have a := flat_len_take (f := opdB) (c := 3) (l := x.Operands) (fun _ _ => Nat.le_refl _) k
    simp only [List.length_append, u8s_len, List.length_cons, List.length_nil]; omega
  repeat (first | refine AWp.seq ?_ | refine AWp.block ?_ | refine AWp.skip ?_)
  refine AWp.region ?_
  intro _
  repeat (first | refine AWp.seq ?_ | refine AWp.block ?_ | refine AWp.skip ?_)
  refine AWp.cond (And.intro (fun h3 => ?_) (fun h3 => ?_))
  · have hk' : k < x.Operands.length := Int.ofNat_lt.1 (of_decide_eq_true h3)
    have hS := flat_take (f := opdB) hk'
    have hMk := hM k
    repeat (first | refine AWp.seq ?_ | refine AWp.block ?_ | refine AWp.skip ?_)
    refine AWp.region ?_
    refine And.intro (fun _ => And.intro (Int.natCast_nonneg _) (Int.ofNat_lt.2 hk')) ?_
    intro _
    refine AWp.freezeObj 5 rfl rfl ?_
    repeat (first | refine AWp.seq ?_ | refine AWp.block ?_ | refine AWp.skip ?_)
    refine AWp.region ?_
    intro _
    repeat (first | refine AWp.seq ?_ | refine AWp.block ?_ | refine AWp.skip ?_)
    refine AWp.region ?_
    intro _
    repeat (first | refine AWp.seq ?_ | refine AWp.block ?_ | refine AWp.skip ?_)
    refine AWp.mono (Q := fun e s => e = .normal ∧ ∃ kd : Int, kd % 256 = ((x.Operands.getD k default).Kind + (if (x.Operands.getD k default).Late = true then 4 else 0)) % 256 ∧ Sub ⟨[(0, .obj 1001 0), (3, .ptr x.cells), (5, .ptr (x.Operands.getD k default).cells), (6, .i64 kd), (21, roL 5 Opd.cells x.Operands), (22, .i64 x.Operands.length), (23, .i64 k)], [(1001, wrC 61 (L ++ u8s [x.Op, (x.Operands.length : Int), (x.Spoils.length : Int)] ++ (x.Operands.take k).flatMap opdB).length), (61, rowU (L ++ u8s [x.Op, (x.Operands.length : Int), (x.Spoils.length : Int)] ++ (x.Operands.take k).flatMap opdB))]⟩ s) ?_ ?_
    · repeat (first | refine AWp.seq ?_ | refine AWp.block ?_ | refine AWp.skip ?_)
      refine AWp.cond (And.intro (fun h4 => ?_) (fun h4 => ?_))
      · have h4 : (x.Operands.getD k default).Late = true := h4
        repeat (first | refine AWp.seq ?_ | refine AWp.block ?_ | refine AWp.skip ?_)
        refine AWp.region ?_
        intro _
        refine And.intro rfl (Exists.intro (IntKind.i64.wrap ((x.Operands.getD k default).Kind + 4)) (And.intro (by rw [wrapmod, if_pos h4]) ?_))
        refine And.intro ?_ (And.intro rfl (And.intro ?_ (And.intro ⟨_, _, rfl, rfl, fun i hi => rfl⟩ (And.intro trivial trivial))))
        all_goals repeat' (first | exact rfl | exact trivial | refine And.intro ?_ ?_)
      · have h4 : (x.Operands.getD k default).Late = false := h4
        refine AWp.skip ?_
        refine And.intro rfl (Exists.intro (x.Operands.getD k default).Kind (And.intro (by rw [h4]; simp) ?_))
        refine And.intro ?_ (And.intro rfl (And.intro ?_ (And.intro ⟨_, _, rfl, rfl, fun i hi => rfl⟩ (And.intro trivial trivial))))
        all_goals repeat' (first | exact rfl | exact trivial | refine And.intro ?_ ?_)
    rintro _ _ ⟨rfl, kd, hkd, hs⟩
    refine AWp.weaken hs ?_
    repeat (first | refine AWp.seq ?_ | refine AWp.block ?_ | refine AWp.skip ?_)
    refine AWp.region ?_
    refine CallX.lend (m_smallO [IntKind.i64.wrap (kd + IntKind.i64.wrap (8 * (x.Operands.getD k default).Limit)), (x.Operands.getD k default).Value, (x.Operands.getD k default).N] _ (by show _ + 3 ≤ _; omega)) [(1001, 1001), (1002, 61), (1003, 43), (101, 101)] rfl (And.intro rfl (And.intro rfl (And.intro rfl trivial))) rfl ?_
    intro _
    have hS' := (congrArg (fun z => L ++ u8s [x.Op, (x.Operands.length : Int), (x.Spoils.length : Int)] ++ (x.Operands.take k).flatMap opdB ++ z) (opd_u8 hkd)).trans ((List.append_assoc _ _ _).trans (congrArg (fun z => L ++ u8s [x.Op, (x.Operands.length : Int), (x.Spoils.length : Int)] ++ z) hS.symm))
    refine AWp.rename 101 61 rfl rfl ?_
    repeat (first | refine AWp.seq ?_ | refine AWp.block ?_ | refine AWp.skip ?_)
    refine AWp.region ?_
    intro _
    refine round_end (k + 1) hk' ?_ (by omega)
    refine And.intro ?_ (And.intro (congrArg (fun M : List Int => some (wrC 61 M.length)) hS') (And.intro ?_ (And.intro ⟨_, _, rfl, congrArg List.length hS', fun i hi => congrArg (fun M : List Int => byC (M.getD i default)) hS'.symm⟩ (And.intro trivial trivial))))
    all_goals repeat' (first | exact rfl | exact trivial | exact congrArg (fun z => some (AV.i64 z)) (wrap_succ hk' hol) | refine And.intro ?_ ?_)
  have hk3 : ¬ (k : Int) < x.Operands.length := of_decide_eq_false h3
  obtain rfl : k = x.Operands.length := by omega
  have e0 : L ++ u8s [x.Op, (x.Operands.length : Int), (x.Spoils.length : Int)] ++ (x.Operands.take x.Operands.length).flatMap opdB = L ++ u8s [x.Op, (x.Operands.length : Int), (x.Spoils.length : Int)] ++ x.Operands.flatMap opdB ++ (x.Spoils.take 0).flatMap rgB := by
    rw [List.take_length]; simp
  refine AWp.exit ?_
  repeat (first | refine AWp.seq ?_ | refine AWp.block ?_ | refine AWp.skip ?_)
  refine AWp.region ?_
  intro _
  repeat (first | refine AWp.seq ?_ | refine AWp.block ?_ | refine AWp.skip ?_)
  refine AWp.loop (fun k : Nat => ⟨[(0, .obj 1001 0), (3, .ptr x.cells), (47, roL 2 Rg.cells x.Spoils), (48, .i64 x.Spoils.length), (49, .i64 k)], [(1001, wrC 61 (L ++ u8s [x.Op, (x.Operands.length : Int), (x.Spoils.length : Int)] ++ x.Operands.flatMap opdB ++ (x.Spoils.take k).flatMap rgB).length), (61, rowU (L ++ u8s [x.Op, (x.Operands.length : Int), (x.Spoils.length : Int)] ++ x.Operands.flatMap opdB ++ (x.Spoils.take k).flatMap rgB))]⟩) (fun k => k ≤ x.Spoils.length) (fun k => x.Spoils.length - k) 0 (Nat.zero_le _) ?_ ?_
  · refine And.intro ?_ (And.intro (congrArg (fun M : List Int => some (wrC 61 M.length)) e0) (And.intro ?_ (And.intro ⟨_, _, rfl, congrArg List.length e0, fun i hi => congrArg (fun M : List Int => byC (M.getD i default)) e0.symm⟩ (And.intro trivial trivial))))
    all_goals repeat' (first | exact rfl | exact trivial | refine And.intro ?_ ?_)
  intro k hk
  have hM2 : (L ++ u8s [x.Op, (x.Operands.length : Int), (x.Spoils.length : Int)] ++ x.Operands.flatMap opdB ++ (x.Spoils.take k).flatMap rgB).length ≤ L.length + 41 := by
    have a := flat_len (f := opdB) (c := 3) (l := x.Operands) fun _ _ => Nat.le_refl _
    have b := flat_len_take (f := rgB) (c := 1) (l := x.Spoils) (fun _ _ => Nat.le_refl _) k
    simp only [List.length_append, u8s_len, List.length_cons, List.length_nil]; omega
  repeat (first | refine AWp.seq ?_ | refine AWp.block ?_ | refine AWp.skip ?_)
  refine AWp.region ?_
  intro _
  repeat (first | refine AWp.seq ?_ | refine AWp.block ?_ | refine AWp.skip ?_)
  refine AWp.cond (And.intro (fun h4 => ?_) (fun h4 => ?_))
  · have hk' : k < x.Spoils.length := Int.ofNat_lt.1 (of_decide_eq_true h4)
    have hS := flat_take (f := rgB) hk'
    repeat (first | refine AWp.seq ?_ | refine AWp.block ?_ | refine AWp.skip ?_)
    refine AWp.region ?_
    refine And.intro (fun _ => And.intro (Int.natCast_nonneg _) (Int.ofNat_lt.2 hk')) ?_
    intro _
    refine AWp.freezeObj 8 rfl rfl ?_
    repeat (first | refine AWp.seq ?_ | refine AWp.block ?_ | refine AWp.skip ?_)
    refine AWp.region ?_
    refine CallX.lend (m_smallO [IntKind.i64.wrap (IntKind.i64.wrap (16 * (x.Spoils.getD k default).Class) + (x.Spoils.getD k default).N)] _ (by show _ + 1 ≤ _; omega)) [(1001, 1001), (1002, 61), (1003, 60), (101, 101)] rfl (And.intro rfl (And.intro rfl (And.intro rfl trivial))) rfl ?_
    intro _
    have hS' := (congrArg (fun z => L ++ u8s [x.Op, (x.Operands.length : Int), (x.Spoils.length : Int)] ++ x.Operands.flatMap opdB ++ (x.Spoils.take k).flatMap rgB ++ z) (rg_u8 (x.Spoils.getD k default))).trans ((List.append_assoc _ _ _).trans (congrArg (fun z => L ++ u8s [x.Op, (x.Operands.length : Int), (x.Spoils.length : Int)] ++ x.Operands.flatMap opdB ++ z) hS.symm))
    refine AWp.rename 101 61 rfl rfl ?_
    repeat (first | refine AWp.seq ?_ | refine AWp.block ?_ | refine AWp.skip ?_)
    refine AWp.region ?_
    intro _
    refine round_end (k + 1) hk' ?_ (by omega)
    refine And.intro ?_ (And.intro (congrArg (fun M : List Int => some (wrC 61 M.length)) hS') (And.intro ?_ (And.intro ⟨_, _, rfl, congrArg List.length hS', fun i hi => congrArg (fun M : List Int => byC (M.getD i default)) hS'.symm⟩ (And.intro trivial trivial))))
    all_goals repeat' (first | exact rfl | exact trivial | exact congrArg (fun z => some (AV.i64 z)) (wrap_succ hk' hsl) | refine And.intro ?_ ?_)
  have hk4 : ¬ (k : Int) < x.Spoils.length := of_decide_eq_false h4
  obtain rfl : k = x.Spoils.length := by omega
  have e1 : L ++ u8s [x.Op, (x.Operands.length : Int), (x.Spoils.length : Int)] ++ x.Operands.flatMap opdB ++ (x.Spoils.take x.Spoils.length).flatMap rgB = L ++ insB x := by
    rw [List.take_length]; unfold insB; simp [u8s]
  refine AWp.rename 61 101 rfl rfl ?_
  refine AWp.exit ?_
  refine ⟨Or.inr rfl, ?_⟩
  intro _
  refine And.intro rfl (And.intro trivial (And.intro (congrArg (fun M : List Int => some (wrC 101 M.length)) e1) (And.intro ?_ (And.intro ⟨_, _, rfl, congrArg List.length e1, fun i hi => congrArg (fun M : List Int => byC (M.getD i default)) e1.symm⟩ (And.intro trivial trivial)))))
  all_goals repeat' (first | exact rfl | exact trivial | refine And.intro ?_ ?_)
end Go.Proofs.Ytpmbbanoiipepaa

/- Plain: the bytes of a script, part by part. Contract of wire.Encode. Condition: a script that may be. -/
namespace Go.Proofs.Ytpmbbanoiipepaa
open Go Go.Abs Go.RowKit Go.Abs.Gra

/-- The bytes so far: behind the head; the first j junk numbers; the first k blocks. -/
def eC2 (s : Scr) : List Int := u8s [s.Machine.r0, s.Machine.r1] ++ four s.Seed
def eC3 (s : Scr) : List Int := eC2 s ++ four s.Steps
def eC4 (s : Scr) : List Int := eC3 s ++ u8s [(s.Junk.length : Int)]
def eJ (s : Scr) (j : Nat) : List Int := eC4 s ++ (s.Junk.take j).flatMap four
def eC6 (s : Scr) : List Int := eJ s s.Junk.length ++ cntB s.Func.Values
def eC7 (s : Scr) : List Int := eC6 s ++ u8s [(s.Func.Blocks.length : Int)]
def eH (s : Scr) (k : Nat) : List Int := eC7 s ++ (s.Func.Blocks.take k).flatMap blkB
def eB1 (s : Scr) (k : Nat) : List Int := eH s k ++ cntB (s.Func.Blocks.getD k default).Params
def eB2 (s : Scr) (k : Nat) : List Int := eB1 s k ++ u8s [((s.Func.Blocks.getD k default).Instrs.length : Int)]
def eI (s : Scr) (k i : Nat) : List Int := eB2 s k ++ ((s.Func.Blocks.getD k default).Instrs.take i).flatMap insB
def eB4 (s : Scr) (k : Nat) : List Int := eI s k (s.Func.Blocks.getD k default).Instrs.length ++ u8s [((s.Func.Blocks.getD k default).Edges.length : Int)]
def eG (s : Scr) (k j : Nat) : List Int := eB4 s k ++ ((s.Func.Blocks.getD k default).Edges.take j).flatMap edgB
theorem eJ_zero (s : Scr) : eC4 s = eJ s 0 := by unfold eJ; simp
theorem eJ_succ {s : Scr} {j : Nat} (hj : j < s.Junk.length) : eJ s j ++ four (s.Junk.getD j default) = eJ s (j + 1) := by unfold eJ; rw [flat_take hj, List.append_assoc]
theorem eH_zero (s : Scr) : eC7 s = eH s 0 := by unfold eH; simp
theorem eI_zero (s : Scr) (k : Nat) : eB2 s k = eI s k 0 := by unfold eI; simp
theorem eI_succ {s : Scr} {k i : Nat} (hi : i < (s.Func.Blocks.getD k default).Instrs.length) : eI s k i ++ insB ((s.Func.Blocks.getD k default).Instrs.getD i default) = eI s k (i + 1) := by unfold eI; rw [flat_take hi, List.append_assoc]
theorem eG_zero (s : Scr) (k : Nat) : eB4 s k = eG s k 0 := by unfold eG; simp
theorem eG_succ {s : Scr} {k j : Nat} (hj : j < (s.Func.Blocks.getD k default).Edges.length) : eG s k j ++ u8s [((s.Func.Blocks.getD k default).Edges.getD j default).Block] ++ cntB ((s.Func.Blocks.getD k default).Edges.getD j default).Args = eG s k (j + 1) := by unfold eG; rw [flat_take hj, List.append_assoc, List.append_assoc]; rfl
theorem eH_succ {s : Scr} {k : Nat} (hk : k < s.Func.Blocks.length) : eG s k (s.Func.Blocks.getD k default).Edges.length = eH s (k + 1) := by
  unfold eG eB4 eI eB2 eB1 eH
  rw [List.take_length, List.take_length, flat_take hk]
  unfold blkB
  simp [u8s]
theorem eH_all (s : Scr) : eH s s.Func.Blocks.length = scrB s := by
  unfold eH eC7 eC6 eJ eC4 eC3 eC2 scrB
  rw [List.take_length, List.take_length]
  simp [u8s]
theorem four_len (n : Int) : (four n).length = 4 := rfl
/-- What a script that may be weighs as bytes. -/
structure ScrSz (s : Scr) : Prop where
  z : SizOk s.Func
  junk : s.Junk.length ≤ 64
  args : ∀ k j, k < s.Func.Blocks.length → j < (s.Func.Blocks.getD k default).Edges.length → ((s.Func.Blocks.getD k default).Edges.getD j default).Args.length ≤ 5
  seed : 0 ≤ s.Seed
  steps : 0 ≤ s.Steps
  jpos : ∀ j, j < s.Junk.length → 0 ≤ s.Junk.getD j default
theorem edg_len {s : Scr} (h : ScrSz s) {k : Nat} (hk : k < s.Func.Blocks.length) : ∀ a ∈ (s.Func.Blocks.getD k default).Edges, (edgB a).length ≤ 7 := by
  intro a ha
  obtain ⟨j, hj, rfl⟩ := getD_of_mem ha
  have := h.args k j hk hj
  unfold edgB
  rw [List.length_cons, cntB_len]; omega
theorem ins_len {s : Scr} (h : ScrSz s) {k : Nat} (hk : k < s.Func.Blocks.length) : ∀ a ∈ (s.Func.Blocks.getD k default).Instrs, (insB a).length ≤ 41 := by
  intro a ha
  obtain ⟨j, hj, rfl⟩ := getD_of_mem ha
  exact insB_len (h.z.ops k j hk hj) (h.z.spo k j hk hj)
theorem blk_len {s : Scr} (h : ScrSz s) : ∀ a ∈ s.Func.Blocks, (blkB a).length ≤ 2000 := by
  intro a ha
  obtain ⟨k, hk, rfl⟩ := getD_of_mem ha
  have h1 := flat_len (ins_len h hk)
  have h2 := flat_len (edg_len h hk)
  have h3 := h.z.instrs k hk
  have h4 := h.z.edges k hk
  have h5 := h.z.params k hk
  unfold blkB
  simp only [List.length_append, List.length_cons, List.length_nil, cntB_len]; omega
theorem eJ_len {s : Scr} (h : ScrSz s) (j : Nat) : (eJ s j).length ≤ 300 := by
  have h1 := flat_len_take (f := four) (c := 4) (l := s.Junk) (fun _ _ => Nat.le_refl _) j
  have := h.junk
  unfold eJ eC4 eC3 eC2
  simp only [List.length_append, u8s_len, four_len, List.length_cons, List.length_nil]; omega
theorem eH_len {s : Scr} (h : ScrSz s) (k : Nat) : (eH s k).length ≤ 40000 := by
  have h1 := flat_len_take (blk_len h) k
  have h2 := eJ_len h s.Junk.length
  have h3 := h.z.values
  have h4 := h.z.blocks
  unfold eH eC7 eC6
  simp only [List.length_append, u8s_len, cntB_len, List.length_cons, List.length_nil]; omega
theorem eI_len {s : Scr} (h : ScrSz s) {k : Nat} (hk : k < s.Func.Blocks.length) (i : Nat) : (eI s k i).length ≤ 50000 := by
  have h1 := flat_len_take (ins_len h hk) i
  have h2 := eH_len h k
  have h3 := h.z.instrs k hk
  have h5 := h.z.params k hk
  unfold eI eB2 eB1
  simp only [List.length_append, u8s_len, cntB_len, List.length_cons, List.length_nil]; omega
theorem eG_len {s : Scr} (h : ScrSz s) {k : Nat} (hk : k < s.Func.Blocks.length) (j : Nat) : (eG s k j).length ≤ 60000 := by
  have h1 := flat_len_take (edg_len h hk) j
  have h2 := eI_len h hk (s.Func.Blocks.getD k default).Instrs.length
  have h3 := h.z.edges k hk
  unfold eG eB4
  simp only [List.length_append, u8s_len, List.length_cons, List.length_nil]; omega

set_option maxHeartbeats 8000000 in
theorem c_Encode (s : Scr) (hok : Scr.ok s) (h0 : scrF s = 0) (hz : ScrSz s) : ACallIs B.P 19 [s.av] (.tup [bytesV (scrB s), .i64 0]) := by
  have hc := c_WireCheck s hok
  rw [h0] at hc
  have hjl := hz.junk
  have hbl := hz.z.blocks
  have hvl := hz.z.values
  have hjm : s.Junk.length ≤ maxLen := by unfold maxLen; omega
  have hbm : s.Func.Blocks.length ≤ maxLen := by unfold maxLen; omega
  have hJ := eJ_len hz
  have hH := eH_len hz
  have hJ0 := hJ 0
  have hA : (eC3 s).length = 10 := by unfold eC3 eC2; simp [u8s_len, four_len]
  refine ACallIs.enter B _ _ Try.func19 rfl rfl Try.ntmps19 Try.results19 rfl fun hreal => ?_
  clear hreal
  repeat (first | refine AWp.seq ?_ | refine AWp.block ?_ | refine AWp.skip ?_)
  refine AWp.region ?_
  intro _
  refine AWp.freezeObj 1 rfl rfl ?_
  repeat (first | refine AWp.seq ?_ | refine AWp.block ?_ | refine AWp.skip ?_)
  refine AWp.region ?_
  refine CallX.pure hc rfl rfl rfl ?_
  intro _
  repeat (first | refine AWp.seq ?_ | refine AWp.block ?_ | refine AWp.skip ?_)
  refine AWp.region ?_
  intro _
  repeat (first | refine AWp.seq ?_ | refine AWp.block ?_ | refine AWp.skip ?_)
  refine AWp.cond (And.intro (fun h1 => ?_) (fun h1 => ?_))
  · cases h1
  repeat (first | refine AWp.seq ?_ | refine AWp.block ?_ | refine AWp.skip ?_)
  refine AWp.region ?_
  intro _
  refine AWp.via (newρ 61) ⟨[(1, .ptr s.cells), (5, .obj 20 0)], [(20, wrC 61 0), (61, rowU [])]⟩ ?_ ?_
  · refine ⟨?_, ?_, newρ_inj 61 _, newρ_old (by decide) _⟩
    · repeat' (first | exact rfl | exact trivial | refine And.intro ?_ ?_)
    · refine And.intro (And.intro ⟨_, ⟨_, rfl, rfl, trivial⟩, rfl⟩ ?_) (And.intro (And.intro ⟨_, _, _, rfl⟩ ?_) trivial)
      all_goals repeat' (first | exact rfl | exact trivial | refine And.intro ?_ ?_)
  repeat (first | refine AWp.seq ?_ | refine AWp.block ?_ | refine AWp.skip ?_)
  refine AWp.region ?_
  refine CallX.lend (m_small [s.Machine.r0, s.Machine.r1] (fun i => (s.cells.drop (i * 1)).take 1) (fun i hi => match i, hi with | 0, _ => rfl | 1, _ => rfl) [] (by show 0 + 2 ≤ 100000000; decide)) [(1001, 20), (1002, 61), (101, 101)] rfl (And.intro rfl (And.intro rfl trivial)) rfl ?_
  intro _
  refine AWp.rename 101 61 rfl rfl ?_
  repeat (first | refine AWp.seq ?_ | refine AWp.block ?_ | refine AWp.skip ?_)
  refine AWp.region ?_
  refine CallX.lend (m_wide s.Seed (u8s [s.Machine.r0, s.Machine.r1]) (by show 2 + 4 ≤ 100000000; decide)) [(1001, 20), (1002, 61), (101, 101)] rfl (And.intro rfl (And.intro rfl trivial)) rfl ?_
  intro _
  refine AWp.rename 101 61 rfl rfl ?_
  repeat (first | refine AWp.seq ?_ | refine AWp.block ?_ | refine AWp.skip ?_)
  refine AWp.region ?_
  refine CallX.lend (m_wide s.Steps (eC2 s) (by show 6 + 4 ≤ _; decide)) [(1001, 20), (1002, 61), (101, 101)] rfl (And.intro rfl (And.intro rfl trivial)) rfl ?_
  intro _
  refine AWp.rename 101 61 rfl rfl ?_
  repeat (first | refine AWp.seq ?_ | refine AWp.block ?_ | refine AWp.skip ?_)
  refine AWp.region ?_
  refine CallX.lend (m_smallO [(s.Junk.length : Int)] (eC3 s) (by rw [hA]; show 10 + 1 ≤ 100000000; decide)) [(1001, 20), (1002, 61), (1003, 38), (101, 101)] rfl (And.intro rfl (And.intro rfl (And.intro rfl trivial))) rfl ?_
  intro _
  refine AWp.rename 101 61 rfl rfl ?_
  repeat (first | refine AWp.seq ?_ | refine AWp.block ?_ | refine AWp.skip ?_)
  refine AWp.region ?_
  intro _
  repeat (first | refine AWp.seq ?_ | refine AWp.block ?_ | refine AWp.skip ?_)
  refine AWp.loop (fun j : Nat => ⟨[(1, .ptr s.cells), (5, .obj 20 0), (41, ints s.Junk), (42, .i64 s.Junk.length), (43, .i64 j)], [(20, wrC 61 (eJ s j).length), (61, rowU (eJ s j))]⟩) (fun j => j ≤ s.Junk.length) (fun j => s.Junk.length - j) 0 (Nat.zero_le _) ?_ ?_
  · refine And.intro ?_ (And.intro (congrArg (fun M : List Int => some (wrC 61 M.length)) (eJ_zero s)) (And.intro ?_ (And.intro ⟨_, _, rfl, congrArg List.length (eJ_zero s), fun i hi => congrArg (fun M : List Int => byC (M.getD i default)) (eJ_zero s).symm⟩ (And.intro trivial trivial))))
    all_goals repeat' (first | exact rfl | exact trivial | refine And.intro ?_ ?_)
  intro j hj
  repeat (first | refine AWp.seq ?_ | refine AWp.block ?_ | refine AWp.skip ?_)
  refine AWp.region ?_
  intro _
  repeat (first | refine AWp.seq ?_ | refine AWp.block ?_ | refine AWp.skip ?_)
  refine AWp.cond (And.intro (fun qj => ?_) (fun qj => ?_))
  · have hj' : j < s.Junk.length := Int.ofNat_lt.1 (of_decide_eq_true qj)
    repeat (first | refine AWp.seq ?_ | refine AWp.block ?_ | refine AWp.skip ?_)
    refine AWp.region ?_
    refine And.intro (fun _ => And.intro (Int.natCast_nonneg _) (Int.ofNat_lt.2 hj')) ?_
    intro _
    repeat (first | refine AWp.seq ?_ | refine AWp.block ?_ | refine AWp.skip ?_)
    refine AWp.region ?_
    refine CallX.lend (m_wide (s.Junk.getD j default) (eJ s j) (by have := hJ j; omega)) [(1001, 20), (1002, 61), (101, 101)] rfl (And.intro rfl (And.intro rfl trivial)) rfl ?_
    intro _
    refine AWp.rename 101 61 rfl rfl ?_
    repeat (first | refine AWp.seq ?_ | refine AWp.block ?_ | refine AWp.skip ?_)
    refine AWp.region ?_
    intro _
    refine round_end (j + 1) hj' ?_ (by omega)
    refine And.intro ?_ (And.intro (congrArg (fun M : List Int => some (wrC 61 M.length)) (eJ_succ hj')) (And.intro ?_ (And.intro ⟨_, _, rfl, congrArg List.length (eJ_succ hj'), fun i hi => congrArg (fun M : List Int => byC (M.getD i default)) (eJ_succ hj').symm⟩ (And.intro trivial trivial))))
    all_goals repeat' (first | exact rfl | exact trivial | exact congrArg (fun z => some (AV.i64 z)) (wrap_succ hj' hjm) | refine And.intro ?_ ?_)
  have hj3 : ¬ (j : Int) < s.Junk.length := of_decide_eq_false qj
  obtain rfl : j = s.Junk.length := by omega
  refine AWp.exit ?_
  repeat (first | refine AWp.seq ?_ | refine AWp.block ?_ | refine AWp.skip ?_)
  refine AWp.region ?_
  refine CallX.lend (m_list s.Func.Values (eJ s s.Junk.length) (by have := hJ s.Junk.length; omega)) [(1001, 20), (1002, 61), (101, 101)] rfl (And.intro rfl (And.intro rfl trivial)) rfl ?_
  intro _
  refine AWp.rename 101 61 rfl rfl ?_
  refine AWp.rename 61 62 rfl rfl ?_
  repeat (first | refine AWp.seq ?_ | refine AWp.block ?_ | refine AWp.skip ?_)
  refine AWp.region ?_
  refine CallX.lend (m_smallO [(s.Func.Blocks.length : Int)] (eC6 s) (by have := hJ s.Junk.length; unfold eC6; rw [List.length_append, cntB_len]; show _ + 1 ≤ _; omega)) [(1001, 20), (1002, 62), (1003, 61), (101, 101)] rfl (And.intro rfl (And.intro rfl (And.intro rfl trivial))) rfl ?_
  intro _
  refine AWp.rename 101 61 rfl rfl ?_
  repeat (first | refine AWp.seq ?_ | refine AWp.block ?_ | refine AWp.skip ?_)
  refine AWp.region ?_
  intro _
  repeat (first | refine AWp.seq ?_ | refine AWp.block ?_ | refine AWp.skip ?_)
  refine AWp.loop (fun k : Nat => ⟨[(1, .ptr s.cells), (5, .obj 20 0), (65, roL 3 Blk.cells s.Func.Blocks), (66, .i64 s.Func.Blocks.length), (67, .i64 k)], [(20, wrC 61 (eH s k).length), (61, rowU (eH s k))]⟩) (fun k => k ≤ s.Func.Blocks.length) (fun k => s.Func.Blocks.length - k) 0 (Nat.zero_le _) ?_ ?_
  · refine And.intro ?_ (And.intro (congrArg (fun M : List Int => some (wrC 61 M.length)) (eH_zero s)) (And.intro ?_ (And.intro ⟨_, _, rfl, congrArg List.length (eH_zero s), fun i hi => congrArg (fun M : List Int => byC (M.getD i default)) (eH_zero s).symm⟩ (And.intro trivial trivial))))
    all_goals repeat' (first | exact rfl | exact trivial | refine And.intro ?_ ?_)
  intro k hk
  repeat (first | refine AWp.seq ?_ | refine AWp.block ?_ | refine AWp.skip ?_)
  refine AWp.region ?_
  intro _
  repeat (first | refine AWp.seq ?_ | refine AWp.block ?_ | refine AWp.skip ?_)
  refine AWp.cond (And.intro (fun qk => ?_) (fun qk => ?_))
  · have hk' : k < s.Func.Blocks.length := Int.ofNat_lt.1 (of_decide_eq_true qk)
    have hHk := hH k
    have hIk := eI_len hz hk'
    have hGk := eG_len hz hk'
    have hin := hz.z.instrs k hk'
    have hed := hz.z.edges k hk'
    have hpa := hz.z.params k hk'
    have him : (s.Func.Blocks.getD k default).Instrs.length ≤ maxLen := by unfold maxLen; omega
    have hem : (s.Func.Blocks.getD k default).Edges.length ≤ maxLen := by unfold maxLen; omega
    have hB1 : (eB1 s k).length ≤ 40010 := by unfold eB1; rw [List.length_append, cntB_len]; omega
    repeat (first | refine AWp.seq ?_ | refine AWp.block ?_ | refine AWp.skip ?_)
    refine AWp.region ?_
    refine And.intro (fun _ => And.intro (Int.natCast_nonneg _) (Int.ofNat_lt.2 hk')) ?_
    intro _
    refine AWp.freezeObj 9 rfl rfl ?_
    repeat (first | refine AWp.seq ?_ | refine AWp.block ?_ | refine AWp.skip ?_)
    refine AWp.region ?_
    refine CallX.lend (m_list (s.Func.Blocks.getD k default).Params (eH s k) (by omega)) [(1001, 20), (1002, 61), (101, 101)] rfl (And.intro rfl (And.intro rfl trivial)) rfl ?_
    intro _
    refine AWp.rename 101 61 rfl rfl ?_
    repeat (first | refine AWp.seq ?_ | refine AWp.block ?_ | refine AWp.skip ?_)
    refine AWp.region ?_
    refine CallX.lend (m_smallO [((s.Func.Blocks.getD k default).Instrs.length : Int)] (eB1 s k) (by show _ + 1 ≤ _; omega)) [(1001, 20), (1002, 61), (1003, 79), (101, 101)] rfl (And.intro rfl (And.intro rfl (And.intro rfl trivial))) rfl ?_
    intro _
    refine AWp.rename 101 61 rfl rfl ?_
    repeat (first | refine AWp.seq ?_ | refine AWp.block ?_ | refine AWp.skip ?_)
    refine AWp.region ?_
    intro _
    repeat (first | refine AWp.seq ?_ | refine AWp.block ?_ | refine AWp.skip ?_)
    refine AWp.loop (fun i : Nat => ⟨[(1, .ptr s.cells), (5, .obj 20 0), (65, roL 3 Blk.cells s.Func.Blocks), (66, .i64 s.Func.Blocks.length), (67, .i64 k), (9, .ptr (s.Func.Blocks.getD k default).cells), (82, roL 3 Ins.cells (s.Func.Blocks.getD k default).Instrs), (83, .i64 (s.Func.Blocks.getD k default).Instrs.length), (84, .i64 i)], [(20, wrC 61 (eI s k i).length), (61, rowU (eI s k i))]⟩) (fun i => i ≤ (s.Func.Blocks.getD k default).Instrs.length) (fun i => (s.Func.Blocks.getD k default).Instrs.length - i) 0 (Nat.zero_le _) ?_ ?_
    · refine And.intro ?_ (And.intro (congrArg (fun M : List Int => some (wrC 61 M.length)) (eI_zero s k)) (And.intro ?_ (And.intro ⟨_, _, rfl, congrArg List.length (eI_zero s k), fun i hi => congrArg (fun M : List Int => byC (M.getD i default)) (eI_zero s k).symm⟩ (And.intro trivial trivial))))
      all_goals repeat' (first | exact rfl | exact trivial | refine And.intro ?_ ?_)
    intro i hi
    repeat (first | refine AWp.seq ?_ | refine AWp.block ?_ | refine AWp.skip ?_)
    refine AWp.region ?_
    intro _
    repeat (first | refine AWp.seq ?_ | refine AWp.block ?_ | refine AWp.skip ?_)
    refine AWp.cond (And.intro (fun qi => ?_) (fun qi => ?_))
    · have hi' : i < (s.Func.Blocks.getD k default).Instrs.length := Int.ofNat_lt.1 (of_decide_eq_true qi)
      have hIi := hIk i
      repeat (first | refine AWp.seq ?_ | refine AWp.block ?_ | refine AWp.skip ?_)
      refine AWp.region ?_
      refine And.intro (fun _ => And.intro (Int.natCast_nonneg _) (Int.ofNat_lt.2 hi')) ?_
      intro _
      refine AWp.freezeObj 11 rfl rfl ?_
      repeat (first | refine AWp.seq ?_ | refine AWp.block ?_ | refine AWp.skip ?_)
      refine AWp.region ?_
      refine CallX.lend (m_wInstr ((s.Func.Blocks.getD k default).Instrs.getD i default) (hz.z.ops k i hk' hi') (hz.z.spo k i hk' hi') (eI s k i) (by omega)) [(1001, 20), (1002, 61), (101, 101)] rfl (And.intro rfl (And.intro rfl trivial)) rfl ?_
      intro _
      refine AWp.rename 101 61 rfl rfl ?_
      repeat (first | refine AWp.seq ?_ | refine AWp.block ?_ | refine AWp.skip ?_)
      refine AWp.region ?_
      intro _
      refine round_end (i + 1) hi' ?_ (by omega)
      refine And.intro ?_ (And.intro (congrArg (fun M : List Int => some (wrC 61 M.length)) (eI_succ hi')) (And.intro ?_ (And.intro ⟨_, _, rfl, congrArg List.length (eI_succ hi'), fun i hi => congrArg (fun M : List Int => byC (M.getD i default)) (eI_succ hi').symm⟩ (And.intro trivial trivial))))
      all_goals repeat' (first | exact rfl | exact trivial | exact congrArg (fun z => some (AV.i64 z)) (wrap_succ hi' him) | refine And.intro ?_ ?_)
    have hi3 : ¬ (i : Int) < (s.Func.Blocks.getD k default).Instrs.length := of_decide_eq_false qi
    obtain rfl : i = (s.Func.Blocks.getD k default).Instrs.length := by omega
    refine AWp.exit ?_
    repeat (first | refine AWp.seq ?_ | refine AWp.block ?_ | refine AWp.skip ?_)
    refine AWp.region ?_
    refine CallX.lend (m_smallO [((s.Func.Blocks.getD k default).Edges.length : Int)] (eI s k (s.Func.Blocks.getD k default).Instrs.length) (by have := hIk (s.Func.Blocks.getD k default).Instrs.length; show _ + 1 ≤ _; omega)) [(1001, 20), (1002, 61), (1003, 96), (101, 101)] rfl (And.intro rfl (And.intro rfl (And.intro rfl trivial))) rfl ?_
    intro _
    refine AWp.rename 101 61 rfl rfl ?_
    repeat (first | refine AWp.seq ?_ | refine AWp.block ?_ | refine AWp.skip ?_)
    refine AWp.region ?_
    intro _
    repeat (first | refine AWp.seq ?_ | refine AWp.block ?_ | refine AWp.skip ?_)
    refine AWp.loop (fun j : Nat => ⟨[(1, .ptr s.cells), (5, .obj 20 0), (65, roL 3 Blk.cells s.Func.Blocks), (66, .i64 s.Func.Blocks.length), (67, .i64 k), (9, .ptr (s.Func.Blocks.getD k default).cells), (99, roL 2 Edg.cells (s.Func.Blocks.getD k default).Edges), (100, .i64 (s.Func.Blocks.getD k default).Edges.length), (101, .i64 j)], [(20, wrC 61 (eG s k j).length), (61, rowU (eG s k j))]⟩) (fun j => j ≤ (s.Func.Blocks.getD k default).Edges.length) (fun j => (s.Func.Blocks.getD k default).Edges.length - j) 0 (Nat.zero_le _) ?_ ?_
    · refine And.intro ?_ (And.intro (congrArg (fun M : List Int => some (wrC 61 M.length)) (eG_zero s k)) (And.intro ?_ (And.intro ⟨_, _, rfl, congrArg List.length (eG_zero s k), fun i hi => congrArg (fun M : List Int => byC (M.getD i default)) (eG_zero s k).symm⟩ (And.intro trivial trivial))))
      all_goals repeat' (first | exact rfl | exact trivial | refine And.intro ?_ ?_)
    intro j hj
    repeat (first | refine AWp.seq ?_ | refine AWp.block ?_ | refine AWp.skip ?_)
    refine AWp.region ?_
    intro _
    repeat (first | refine AWp.seq ?_ | refine AWp.block ?_ | refine AWp.skip ?_)
    refine AWp.cond (And.intro (fun qj => ?_) (fun qj => ?_))
    · have hj' : j < (s.Func.Blocks.getD k default).Edges.length := Int.ofNat_lt.1 (of_decide_eq_true qj)
      have hGj := hGk j
      have har := hz.args k j hk' hj'
      repeat (first | refine AWp.seq ?_ | refine AWp.block ?_ | refine AWp.skip ?_)
      refine AWp.region ?_
      refine And.intro (fun _ => And.intro (Int.natCast_nonneg _) (Int.ofNat_lt.2 hj')) ?_
      intro _
      refine AWp.freezeObj 13 rfl rfl ?_
      repeat (first | refine AWp.seq ?_ | refine AWp.block ?_ | refine AWp.skip ?_)
      refine AWp.region ?_
      refine CallX.lend (m_smallO [((s.Func.Blocks.getD k default).Edges.getD j default).Block] (eG s k j) (by show _ + 1 ≤ _; omega)) [(1001, 20), (1002, 61), (1003, 108), (101, 101)] rfl (And.intro rfl (And.intro rfl (And.intro rfl trivial))) rfl ?_
      intro _
      refine AWp.rename 101 61 rfl rfl ?_
      repeat (first | refine AWp.seq ?_ | refine AWp.block ?_ | refine AWp.skip ?_)
      refine AWp.region ?_
      refine CallX.lend (m_list ((s.Func.Blocks.getD k default).Edges.getD j default).Args (eG s k j ++ u8s [((s.Func.Blocks.getD k default).Edges.getD j default).Block]) (by rw [List.length_append, u8s_len]; show _ + 1 + _ + 1 ≤ _; omega)) [(1001, 20), (1002, 61), (101, 101)] rfl (And.intro rfl (And.intro rfl trivial)) rfl ?_
      intro _
      refine AWp.rename 101 61 rfl rfl ?_
      repeat (first | refine AWp.seq ?_ | refine AWp.block ?_ | refine AWp.skip ?_)
      refine AWp.region ?_
      intro _
      refine round_end (j + 1) hj' ?_ (by omega)
      refine And.intro ?_ (And.intro (congrArg (fun M : List Int => some (wrC 61 M.length)) (eG_succ hj')) (And.intro ?_ (And.intro ⟨_, _, rfl, congrArg List.length (eG_succ hj'), fun i hi => congrArg (fun M : List Int => byC (M.getD i default)) (eG_succ hj').symm⟩ (And.intro trivial trivial))))
      all_goals repeat' (first | exact rfl | exact trivial | exact congrArg (fun z => some (AV.i64 z)) (wrap_succ hj' hem) | refine And.intro ?_ ?_)
    have hj3 : ¬ (j : Int) < (s.Func.Blocks.getD k default).Edges.length := of_decide_eq_false qj
    obtain rfl : j = (s.Func.Blocks.getD k default).Edges.length := by omega
    refine AWp.exit ?_
    repeat (first | refine AWp.seq ?_ | refine AWp.block ?_ | refine AWp.skip ?_)
    refine AWp.region ?_
    intro _
    refine round_end (k + 1) hk' ?_ (by omega)
    refine And.intro ?_ (And.intro (congrArg (fun M : List Int => some (wrC 61 M.length)) (eH_succ hk')) (And.intro ?_ (And.intro ⟨_, _, rfl, congrArg List.length (eH_succ hk'), fun i hi => congrArg (fun M : List Int => byC (M.getD i default)) (eH_succ hk').symm⟩ (And.intro trivial trivial))))
    all_goals repeat' (first | exact rfl | exact trivial | exact congrArg (fun z => some (AV.i64 z)) (wrap_succ hk' hbm) | refine And.intro ?_ ?_)
  have hk3 : ¬ (k : Int) < s.Func.Blocks.length := of_decide_eq_false qk
  obtain rfl : k = s.Func.Blocks.length := by omega
  refine AWp.exit ?_
  refine AWp.freeze 61 (fun i => byC ((eH s s.Func.Blocks.length).getD i default)) rfl (fun i hi => rfl) ?_
  repeat (first | refine AWp.seq ?_ | refine AWp.block ?_ | refine AWp.skip ?_)
  refine AWp.region ?_
  intro _
  refine AWp.ret ⟨Or.inl rfl, rfl, ?_⟩
  intro _
  exact congrArg (fun M : List Int => AV.tup [bytesV M, .i64 0]) (eH_all s)
end Go.Proofs.Ytpmbbanoiipepaa

/- Contracts of the document's fourBytes, addBytes, counted, instrBytes. Condition: sizes that may be. -/
namespace Go.Proofs.Ytpmbbanoiipepaa
open Go Go.Abs Go.RowKit Go.Abs.Gra

theorem appB_row {L M : List Int} {i : Nat} (hi : i < L.length + M.length) : byC ((L ++ M).getD i default) = if i < L.length then byC (L.getD i default) else (M.map byC).getD (i - L.length) [] := by
  by_cases h : i < L.length
  · rw [if_pos h, List.getD_eq_getElem?_getD, List.getD_eq_getElem?_getD, List.getElem?_append_left h]
  · rw [if_neg h, List.getD_eq_getElem?_getD, List.getElem?_append_right (by omega), List.getD_eq_getElem?_getD, List.getElem?_map, List.getElem?_eq_getElem (show i - L.length < M.length by omega)]
    rfl
theorem litB_row {M : List Int} {i : Nat} (hi : i < M.length) : byC (M.getD i default) = (M.map byC).getD i [] := by
  simp [List.getD_eq_getElem?_getD, hi]
theorem four_eq {n : Int} (hn : 0 ≤ n ∧ n ≤ 1073741824) : four n = u8s [IntKind.i64.wrap (n.tdiv 16777216), (IntKind.i64.wrap (n.tdiv 65536)).tmod 256, (IntKind.i64.wrap (n.tdiv 256)).tmod 256, n.tmod 256] := by
  rw [Int.tdiv_eq_ediv_of_nonneg hn.1, Int.tdiv_eq_ediv_of_nonneg hn.1, Int.tdiv_eq_ediv_of_nonneg hn.1]
  rw [wrap_in (by omega) (by omega), wrap_in (by omega) (by omega), wrap_in (by omega) (by omega)]
  rw [Int.tmod_eq_emod_of_nonneg (by omega), Int.tmod_eq_emod_of_nonneg (by omega), Int.tmod_eq_emod_of_nonneg hn.1]
  have e : ∀ a : Int, u8 (a % 256) = u8 a := fun a => by rw [u8_eq, u8_eq]; omega
  show _ = [u8 _, u8 _, u8 _, u8 _]
  rw [e, e, e]; rfl
set_option maxHeartbeats 1000000 in
theorem c_fourBytes (n : Int) (hn : 0 ≤ n ∧ n ≤ 1073741824) : ACallIs B.P 60 [.i64 n] (bytesV (four n)) := by
  have hf := four_eq hn
  refine ACallIs.enter B _ _ Try.func60 rfl rfl Try.ntmps60 Try.results60 rfl fun hreal => ?_
  clear hreal
  repeat (first | refine AWp.seq ?_ | refine AWp.block ?_ | refine AWp.skip ?_)
  refine AWp.region ?_
  intro _
  repeat (first | refine AWp.seq ?_ | refine AWp.block ?_ | refine AWp.skip ?_)
  refine AWp.region ?_
  repeat' refine And.intro ?_ ?_
  all_goals first | decide | skip
  intro _
  refine AWp.freeze 17 (fun i => byC ((four n).getD i default)) rfl (fun i hi => ?_) ?_
  · rw [hf]
    exact litB_row (M := u8s [IntKind.i64.wrap (n.tdiv 16777216), (IntKind.i64.wrap (n.tdiv 65536)).tmod 256, (IntKind.i64.wrap (n.tdiv 256)).tmod 256, n.tmod 256]) hi
  refine AWp.ret ⟨Or.inl rfl, rfl, ?_⟩
  intro _
  rfl
theorem take_snoc {l : List Int} {j : Nat} (hj : j < l.length) : l.take (j + 1) = l.take j ++ [l.getD j default] := take_succ_getD hj
set_option maxHeartbeats 1000000 in
theorem m_addBytes (L M : List Int) (hL : L.length + M.length ≤ 100000000) : ACallM B.P 59 ⟨[.sl 1001 L.length, bytesV M], [(1001, rowU L)], .sl 101 (L ++ M).length, [(101, rowU (L ++ M))]⟩ := by
  have hlm : M.length ≤ maxLen := by unfold maxLen; omega
  refine ACallM.enter B _ _ Try.func59 rfl rfl Try.ntmps59 Try.results59 rfl ?_ fun hreal => ?_
  · refine And.intro ?_ (And.intro ?_ ?_)
    all_goals repeat' (first | exact rfl | exact trivial | refine And.intro ?_ ?_)
  clear hreal
  refine AWp.rename 1001 101 rfl rfl ?_
  repeat (first | refine AWp.seq ?_ | refine AWp.block ?_ | refine AWp.skip ?_)
  refine AWp.region ?_
  intro _
  repeat (first | refine AWp.seq ?_ | refine AWp.block ?_ | refine AWp.skip ?_)
  refine AWp.region ?_
  intro _
  repeat (first | refine AWp.seq ?_ | refine AWp.block ?_ | refine AWp.skip ?_)
  refine AWp.loop (fun j : Nat => ⟨[(0, .sl 101 (L ++ M.take j).length), (1, bytesV M), (5, .i64 j)], [(101, rowU (L ++ M.take j))]⟩) (fun j => j ≤ M.length) (fun j => M.length - j) 0 (Nat.zero_le _) ?_ ?_
  · have e : L = L ++ M.take 0 := by simp
    refine And.intro ?_ (And.intro ⟨_, _, rfl, congrArg List.length e, fun i hi => congrArg (fun M : List Int => byC (M.getD i default)) e.symm⟩ (And.intro trivial trivial))
    all_goals repeat' (first | exact rfl | exact trivial | exact congrArg (fun M : List Int => some (AV.sl 101 M.length)) e | refine And.intro ?_ ?_)
  intro j hj
  repeat (first | refine AWp.seq ?_ | refine AWp.block ?_ | refine AWp.skip ?_)
  refine AWp.region ?_
  intro _
  repeat (first | refine AWp.seq ?_ | refine AWp.block ?_ | refine AWp.skip ?_)
  refine AWp.cond (And.intro (fun h1 => ?_) (fun h1 => ?_))
  · have hj' : j < M.length := Int.ofNat_lt.1 (of_decide_eq_true h1)
    have hS : L ++ M.take (j + 1) = (L ++ M.take j) ++ [M.getD j default] := by rw [take_snoc hj', List.append_assoc]
    have hSl : (L ++ M.take (j + 1)).length = (L ++ M.take j).length + 1 := by rw [hS]; exact List.length_append
    have hlen : (L ++ M.take j).length ≤ 100000000 := by rw [List.length_append, List.length_take]; omega
    repeat (first | refine AWp.seq ?_ | refine AWp.block ?_ | refine AWp.skip ?_)
    refine AWp.region ?_
    refine And.intro (fun _ => And.intro (Int.natCast_nonneg _) (Int.ofNat_lt.2 hj')) ?_
    refine And.intro (Nat.le_refl _) (And.intro (fun i hi => ?_) (And.intro rfl (And.intro (by omega) ?_)))
    · have e : i = 0 := by omega
      subst e; rfl
    intro _
    refine AWp.rename 18 101 rfl rfl ?_
    repeat (first | refine AWp.seq ?_ | refine AWp.block ?_ | refine AWp.skip ?_)
    refine AWp.region ?_
    intro _
    refine round_end (j + 1) hj' ?_ (by omega)
    refine And.intro ?_ (And.intro ⟨_, _, rfl, hSl.symm, fun i hi => ?_⟩ (And.intro trivial trivial))
    · repeat' (first | exact rfl | exact trivial | exact congrArg (fun n => some (AV.sl 101 n)) hSl.symm | exact congrArg (fun z => some (AV.i64 z)) (wrap_succ hj' hlm) | refine And.intro ?_ ?_)
    · rw [hSl] at hi
      rw [hS]
      exact appB_row (M := [M.getD j default]) hi
  have hj3 : ¬ (j : Int) < M.length := of_decide_eq_false h1
  have hjl : j = M.length := by omega
  subst hjl
  have e : L ++ M.take M.length = L ++ M := by rw [List.take_length]
  refine AWp.exit ?_
  repeat (first | refine AWp.seq ?_ | refine AWp.block ?_ | refine AWp.skip ?_)
  refine AWp.region ?_
  intro _
  refine AWp.ret ⟨Or.inl rfl, ?_⟩
  intro _
  refine And.intro (congrArg (fun M : List Int => AV.sl 101 M.length) e) (And.intro rfl (And.intro ⟨_, _, rfl, congrArg List.length e, fun i hi => congrArg (fun M : List Int => byC (M.getD i default)) e.symm⟩ (And.intro trivial trivial)))
set_option maxHeartbeats 1000000 in
theorem c_counted (l : List Int) (hl : l.length ≤ 100000) : ACallIs B.P 61 [ints l] (bytesV (cntB l)) := by
  have hlm : l.length ≤ maxLen := by unfold maxLen; omega
  refine ACallIs.enter B _ _ Try.func61 rfl rfl Try.ntmps61 Try.results61 rfl fun hreal => ?_
  clear hreal
  repeat (first | refine AWp.seq ?_ | refine AWp.block ?_ | refine AWp.skip ?_)
  refine AWp.region ?_
  intro _
  repeat (first | refine AWp.seq ?_ | refine AWp.block ?_ | refine AWp.skip ?_)
  refine AWp.region ?_
  intro _
  refine AWp.rename 8 61 rfl rfl ?_
  repeat (first | refine AWp.seq ?_ | refine AWp.block ?_ | refine AWp.skip ?_)
  refine AWp.region ?_
  intro _
  repeat (first | refine AWp.seq ?_ | refine AWp.block ?_ | refine AWp.skip ?_)
  refine AWp.loop (fun j : Nat => ⟨[(0, ints l), (3, .sl 61 (u8 l.length :: u8s (l.take j)).length), (4, .i64 j)], [(61, rowU (u8 l.length :: u8s (l.take j)))]⟩) (fun j => j ≤ l.length) (fun j => l.length - j) 0 (Nat.zero_le _) ?_ ?_
  · refine And.intro ?_ (And.intro ⟨_, _, rfl, rfl, fun i hi => litB_row (M := [u8 l.length]) hi⟩ (And.intro trivial trivial))
    all_goals repeat' (first | exact rfl | exact trivial | refine And.intro ?_ ?_)
  intro j hj
  repeat (first | refine AWp.seq ?_ | refine AWp.block ?_ | refine AWp.skip ?_)
  refine AWp.region ?_
  intro _
  repeat (first | refine AWp.seq ?_ | refine AWp.block ?_ | refine AWp.skip ?_)
  refine AWp.cond (And.intro (fun h1 => ?_) (fun h1 => ?_))
  · have hj' : j < l.length := Int.ofNat_lt.1 (of_decide_eq_true h1)
    have hS : u8 l.length :: u8s (l.take (j + 1)) = (u8 l.length :: u8s (l.take j)) ++ [u8 (l.getD j default)] := by rw [u8s_take hj']; rfl
    have hSl : (u8 l.length :: u8s (l.take (j + 1))).length = (u8 l.length :: u8s (l.take j)).length + 1 := by rw [hS]; exact List.length_append
    have hlen : (u8 l.length :: u8s (l.take j)).length ≤ 100000000 := by rw [List.length_cons, u8s_len, List.length_take]; omega
    repeat (first | refine AWp.seq ?_ | refine AWp.block ?_ | refine AWp.skip ?_)
    refine AWp.region ?_
    refine And.intro (fun _ => And.intro (Int.natCast_nonneg _) (Int.ofNat_lt.2 hj')) ?_
    refine And.intro (Nat.le_refl _) (And.intro (fun i hi => ?_) (And.intro rfl (And.intro (by omega) ?_)))
    · have e : i = 0 := by omega
      subst e; rfl
    intro _
    refine AWp.rename 22 61 rfl rfl ?_
    repeat (first | refine AWp.seq ?_ | refine AWp.block ?_ | refine AWp.skip ?_)
    refine AWp.region ?_
    intro _
    refine round_end (j + 1) hj' ?_ (by omega)
    refine And.intro ?_ (And.intro ⟨_, _, rfl, hSl.symm, fun i hi => ?_⟩ (And.intro trivial trivial))
    · repeat' (first | exact rfl | exact trivial | exact congrArg (fun n => some (AV.sl 61 n)) hSl.symm | exact congrArg (fun z => some (AV.i64 z)) (wrap_succ hj' hlm) | refine And.intro ?_ ?_)
    · rw [hSl] at hi
      rw [hS]
      exact appB_row (M := [u8 (l.getD j default)]) hi
  have hj3 : ¬ (j : Int) < l.length := of_decide_eq_false h1
  have hjl : j = l.length := by omega
  subst hjl
  have e : u8 l.length :: u8s (l.take l.length) = cntB l := by rw [List.take_length]; rfl
  refine AWp.exit ?_
  refine AWp.freeze 61 (fun i => byC ((u8 l.length :: u8s (l.take l.length)).getD i default)) rfl (fun i hi => rfl) ?_
  repeat (first | refine AWp.seq ?_ | refine AWp.block ?_ | refine AWp.skip ?_)
  refine AWp.region ?_
  intro _
  refine AWp.ret ⟨Or.inl rfl, rfl, ?_⟩
  intro _
  exact congrArg bytesV e
theorem opd_u82 {o : Opd} {kd : Int} (hk : kd % 256 = (o.Kind + (if o.Late = true then 4 else 0) + 8 * o.Limit) % 256) : u8s [kd, o.Value, o.N] = opdB o := by
  have e : u8 kd = u8 (o.Kind + (if o.Late = true then 4 else 0) + 8 * o.Limit) := by rw [u8_eq, u8_eq, hk]
  show [u8 _, u8 _, u8 _] = _
  rw [e]; rfl
def iO (x : Ins) (k : Nat) : List Int := u8s [x.Op, (x.Operands.length : Int), (x.Spoils.length : Int)] ++ (x.Operands.take k).flatMap opdB
def iS (x : Ins) (k : Nat) : List Int := iO x x.Operands.length ++ (x.Spoils.take k).flatMap rgB
theorem iO_len (x : Ins) (k : Nat) : (iO x k).length ≤ 3 + 3 * x.Operands.length := by
  have := flat_len_take (f := opdB) (c := 3) (l := x.Operands) (fun _ _ => Nat.le_refl _) k
  unfold iO; rw [List.length_append, u8s_len]; simp only [List.length_cons, List.length_nil]; omega
theorem iS_len (x : Ins) (k : Nat) : (iS x k).length ≤ 3 + 3 * x.Operands.length + x.Spoils.length := by
  have := flat_len_take (f := rgB) (c := 1) (l := x.Spoils) (fun _ _ => Nat.le_refl _) k
  have := iO_len x x.Operands.length
  unfold iS; rw [List.length_append]; omega
set_option maxHeartbeats 2000000 in
theorem c_instrBytes (x : Ins) (h1 : x.Operands.length ≤ 6) (h2 : x.Spoils.length ≤ 20) : ACallIs B.P 62 [x.av] (bytesV (insB x)) := by
  have hol : x.Operands.length ≤ maxLen := by unfold maxLen; omega
  have hsl : x.Spoils.length ≤ maxLen := by unfold maxLen; omega
  refine ACallIs.enter B _ _ Try.func62 rfl rfl Try.ntmps62 Try.results62 rfl fun hreal => ?_
  clear hreal
  repeat (first | refine AWp.seq ?_ | refine AWp.block ?_ | refine AWp.skip ?_)
  refine AWp.region ?_
  intro _
  refine AWp.freezeObj 1 rfl rfl ?_
  repeat (first | refine AWp.seq ?_ | refine AWp.block ?_ | refine AWp.skip ?_)
  refine AWp.region ?_
  intro _
  refine AWp.rename 19 61 rfl rfl ?_
  repeat (first | refine AWp.seq ?_ | refine AWp.block ?_ | refine AWp.skip ?_)
  refine AWp.region ?_
  intro _
  repeat (first | refine AWp.seq ?_ | refine AWp.block ?_ | refine AWp.skip ?_)
  refine AWp.loop (fun k : Nat => ⟨[(1, .ptr x.cells), (3, .sl 61 (iO x k).length), (4, .i64 k)], [(61, rowU (iO x k))]⟩) (fun k => k ≤ x.Operands.length) (fun k => x.Operands.length - k) 0 (Nat.zero_le _) ?_ ?_
  · have e : u8s [x.Op, (x.Operands.length : Int), (x.Spoils.length : Int)] = iO x 0 := by unfold iO; simp
    refine And.intro ?_ (And.intro ⟨_, _, rfl, congrArg List.length e, fun i hi => ?_⟩ (And.intro trivial trivial))
    · repeat' (first | exact rfl | exact trivial | exact congrArg (fun M : List Int => some (AV.sl 61 M.length)) e | refine And.intro ?_ ?_)
    · rw [← e]
      exact litB_row (M := u8s [x.Op, (x.Operands.length : Int), (x.Spoils.length : Int)]) (by rw [e]; exact hi)
  intro k hk
  have hM := iO_len x k
  repeat (first | refine AWp.seq ?_ | refine AWp.block ?_ | refine AWp.skip ?_)
  refine AWp.region ?_
  intro _
  repeat (first | refine AWp.seq ?_ | refine AWp.block ?_ | refine AWp.skip ?_)
  refine AWp.cond (And.intro (fun h3 => ?_) (fun h3 => ?_))
  · have hk' : k < x.Operands.length := Int.ofNat_lt.1 (of_decide_eq_true h3)
    have hS : iO x (k + 1) = iO x k ++ opdB (x.Operands.getD k default) := by unfold iO; rw [flat_take hk', List.append_assoc]
    have hSl : (iO x (k + 1)).length = (iO x k).length + 3 := by rw [hS]; exact List.length_append
    repeat (first | refine AWp.seq ?_ | refine AWp.block ?_ | refine AWp.skip ?_)
    refine AWp.region ?_
    refine And.intro (fun _ => And.intro (Int.natCast_nonneg _) (Int.ofNat_lt.2 hk')) ?_
    intro _
    refine AWp.freezeObj 5 rfl rfl ?_
    repeat (first | refine AWp.seq ?_ | refine AWp.block ?_ | refine AWp.skip ?_)
    refine AWp.region ?_
    intro _
    repeat (first | refine AWp.seq ?_ | refine AWp.block ?_ | refine AWp.skip ?_)
    refine AWp.region ?_
    intro _
    repeat (first | refine AWp.seq ?_ | refine AWp.block ?_ | refine AWp.skip ?_)
    refine AWp.mono (Q := fun e s => e = .normal ∧ ∃ kd : Int, kd % 256 = ((x.Operands.getD k default).Kind + (if (x.Operands.getD k default).Late = true then 4 else 0) + 8 * (x.Operands.getD k default).Limit) % 256 ∧ Sub ⟨[(1, .ptr x.cells), (3, .sl 61 (iO x k).length), (4, .i64 k), (5, .ptr (x.Operands.getD k default).cells), (6, .i64 kd)], [(61, rowU (iO x k))]⟩ s) ?_ ?_
    · have w1 := wrapmod ((x.Operands.getD k default).Kind + IntKind.i64.wrap (8 * (x.Operands.getD k default).Limit))
      have w2 := wrapmod (8 * (x.Operands.getD k default).Limit)
      repeat (first | refine AWp.seq ?_ | refine AWp.block ?_ | refine AWp.skip ?_)
      refine AWp.cond (And.intro (fun h4 => ?_) (fun h4 => ?_))
      · have h4 : (x.Operands.getD k default).Late = true := h4
        repeat (first | refine AWp.seq ?_ | refine AWp.block ?_ | refine AWp.skip ?_)
        refine AWp.region ?_
        intro _
        refine And.intro rfl (Exists.intro (IntKind.i64.wrap (IntKind.i64.wrap ((x.Operands.getD k default).Kind + IntKind.i64.wrap (8 * (x.Operands.getD k default).Limit)) + 4)) (And.intro (by rw [wrapmod, if_pos h4]; omega) ?_))
        refine And.intro ?_ (And.intro ⟨_, _, rfl, rfl, fun i hi => rfl⟩ (And.intro trivial trivial))
        all_goals repeat' (first | exact rfl | exact trivial | refine And.intro ?_ ?_)
      · have h4 : (x.Operands.getD k default).Late = false := h4
        refine AWp.skip ?_
        refine And.intro rfl (Exists.intro (IntKind.i64.wrap ((x.Operands.getD k default).Kind + IntKind.i64.wrap (8 * (x.Operands.getD k default).Limit))) (And.intro (by rw [h4, if_neg (by decide)]; omega) ?_))
        refine And.intro ?_ (And.intro ⟨_, _, rfl, rfl, fun i hi => rfl⟩ (And.intro trivial trivial))
        all_goals repeat' (first | exact rfl | exact trivial | refine And.intro ?_ ?_)
    rintro _ _ ⟨rfl, kd, hkd, hs⟩
    refine AWp.weaken hs ?_
    repeat (first | refine AWp.seq ?_ | refine AWp.block ?_ | refine AWp.skip ?_)
    refine AWp.region ?_
    refine And.intro (Nat.le_refl _) (And.intro (fun i hi => ?_) (And.intro rfl (And.intro (by omega) ?_)))
    · match i, hi with
      | 0, _ => rfl
      | 1, _ => rfl
      | 2, _ => rfl
    intro _
    refine AWp.rename 52 61 rfl rfl ?_
    repeat (first | refine AWp.seq ?_ | refine AWp.block ?_ | refine AWp.skip ?_)
    refine AWp.region ?_
    intro _
    refine round_end (k + 1) hk' ?_ (by omega)
    refine And.intro ?_ (And.intro ⟨_, _, rfl, hSl.symm, fun i hi => ?_⟩ (And.intro trivial trivial))
    · repeat' (first | exact rfl | exact trivial | exact congrArg (fun n => some (AV.sl 61 n)) hSl.symm | exact congrArg (fun z => some (AV.i64 z)) (wrap_succ hk' hol) | refine And.intro ?_ ?_)
    · rw [hSl] at hi
      rw [hS, ← opd_u82 hkd]
      exact appB_row (M := u8s [kd, (x.Operands.getD k default).Value, (x.Operands.getD k default).N]) hi
  have hk3 : ¬ (k : Int) < x.Operands.length := of_decide_eq_false h3
  obtain rfl : k = x.Operands.length := by omega
  have e0 : iO x x.Operands.length = iS x 0 := by unfold iS; simp
  refine AWp.exit ?_
  repeat (first | refine AWp.seq ?_ | refine AWp.block ?_ | refine AWp.skip ?_)
  refine AWp.region ?_
  intro _
  repeat (first | refine AWp.seq ?_ | refine AWp.block ?_ | refine AWp.skip ?_)
  refine AWp.loop (fun k : Nat => ⟨[(1, .ptr x.cells), (3, .sl 61 (iS x k).length), (7, .i64 k)], [(61, rowU (iS x k))]⟩) (fun k => k ≤ x.Spoils.length) (fun k => x.Spoils.length - k) 0 (Nat.zero_le _) ?_ ?_
  · refine And.intro ?_ (And.intro ⟨_, _, rfl, congrArg List.length e0, fun i hi => congrArg (fun M : List Int => byC (M.getD i default)) e0.symm⟩ (And.intro trivial trivial))
    all_goals repeat' (first | exact rfl | exact trivial | exact congrArg (fun M : List Int => some (AV.sl 61 M.length)) e0 | refine And.intro ?_ ?_)
  intro k hk
  have hM2 := iS_len x k
  repeat (first | refine AWp.seq ?_ | refine AWp.block ?_ | refine AWp.skip ?_)
  refine AWp.region ?_
  intro _
  repeat (first | refine AWp.seq ?_ | refine AWp.block ?_ | refine AWp.skip ?_)
  refine AWp.cond (And.intro (fun h4 => ?_) (fun h4 => ?_))
  · have hk' : k < x.Spoils.length := Int.ofNat_lt.1 (of_decide_eq_true h4)
    have hS : iS x (k + 1) = iS x k ++ rgB (x.Spoils.getD k default) := by unfold iS; rw [flat_take hk', List.append_assoc]
    have hSl : (iS x (k + 1)).length = (iS x k).length + 1 := by rw [hS]; exact List.length_append
    repeat (first | refine AWp.seq ?_ | refine AWp.block ?_ | refine AWp.skip ?_)
    refine AWp.quietFirst (.q 0 (.q 1 (.q 2 (.q 3 (.q 4 (.q 5 (.q 6 (.q 7 (.q 8 (.q 9 (.q 10 (.q 11 (.q 12 (.q 13 (.q 14 (.q 15 (.c 16 false (.c 17 true (.q 18 .fin) .no) .no))))))))))))))))) [0, 1, 2, 3, 4, 5, 6, 7, 8, 9, 10, 11, 12, 13, 14, 15, 18] [61] mixed (by kernel_rfl) ?_
    repeat' (first | exact trivial | refine And.intro ?_ ?_)
    all_goals first | exact (fun _ => And.intro (Int.natCast_nonneg _) (Int.ofNat_lt.2 hk')) | exact rfl | exact Nat.le_refl _ | (intro i hi; have e : i = 0 := (by omega); subst e; rfl) | omega | skip
    intro _
    refine AWp.rename 77 61 rfl rfl ?_
    repeat (first | refine AWp.seq ?_ | refine AWp.block ?_ | refine AWp.skip ?_)
    refine AWp.region ?_
    intro _
    refine round_end (k + 1) hk' ?_ (by omega)
    refine And.intro ?_ (And.intro ⟨_, _, rfl, hSl.symm, fun i hi => ?_⟩ (And.intro trivial trivial))
    · repeat' (first | exact rfl | exact trivial | exact congrArg (fun n => some (AV.sl 61 n)) hSl.symm | exact congrArg (fun z => some (AV.i64 z)) (wrap_succ hk' hsl) | refine And.intro ?_ ?_)
    · rw [hSl] at hi
      rw [hS, ← rg_u8]
      exact appB_row (M := u8s [IntKind.i64.wrap (IntKind.i64.wrap (16 * (x.Spoils.getD k default).Class) + (x.Spoils.getD k default).N)]) hi
  have hk4 : ¬ (k : Int) < x.Spoils.length := of_decide_eq_false h4
  obtain rfl : k = x.Spoils.length := by omega
  have e1 : iS x x.Spoils.length = insB x := by
    unfold iS iO insB; rw [List.take_length, List.take_length]; simp [u8s]
  refine AWp.exit ?_
  refine AWp.freeze 61 (fun i => byC ((iS x x.Spoils.length).getD i default)) rfl (fun i hi => rfl) ?_
  repeat (first | refine AWp.seq ?_ | refine AWp.block ?_ | refine AWp.skip ?_)
  refine AWp.region ?_
  intro _
  refine AWp.ret ⟨Or.inl rfl, rfl, ?_⟩
  intro _
  exact congrArg bytesV e1
end Go.Proofs.Ytpmbbanoiipepaa

/- Contract of the document's ScriptBytes; what both refuse. Condition: what the script's slices may weigh. -/
namespace Go.Proofs.Ytpmbbanoiipepaa
open Go Go.Abs Go.RowKit Go.Abs.Gra


theorem ok_junk {s : Scr} (h0 : scrF s = 0) : ScrSz s ∧ s.Seed ≤ 1073741824 ∧ s.Steps ≤ 1073741824 ∧ ∀ j, j < s.Junk.length → 0 ≤ s.Junk.getD j default ∧ s.Junk.getD j default ≤ 1073741824 := by
  have h1 : flwF s.Func s.Machine = 0 := Classical.byContradiction fun hn => hn (by rw [scrF_1 hn] at h0; exact h0)
  have h2 : ¬ (s.Seed < 0 ∨ 1073741824 < s.Seed ∨ s.Steps < 0 ∨ 5000 < s.Steps) := fun hn => by rw [scrF_2 h1 hn] at h0; cases h0
  have h3 : ¬ 64 < s.Junk.length := fun hn => by rw [scrF_3 h1 h2 hn] at h0; cases h0
  have h4 : firstF (jnkG s.Junk) s.Junk.length = 0 := by rw [scrF_4 h1 h2 h3 rfl] at h0; exact h0
  have h5 : ∀ j, j < s.Junk.length → 0 ≤ s.Junk.getD j default ∧ s.Junk.getD j default ≤ 1073741824 := fun j hj => by
    have := firstF_zero h4 j hj
    unfold jnkG at this
    split at this
    · cases this
    · omega
  have hC := chkd_of (show chkF s.Func s.Machine = 0 from Classical.byContradiction fun hn => by rw [flwF_1 hn] at h1; exact hn h1)
  exact ⟨⟨hC.e.siz, by omega, fun k j hk hj => hC.argl k j hk hj, by omega, by omega, fun j hj => (h5 j hj).1⟩, by omega, by omega, h5⟩
set_option maxHeartbeats 8000000 in
theorem c_ScriptBytes (s : Scr) (hok : Scr.ok s) (h0 : scrF s = 0) : ACallIs B.P 20 [s.av] (.tup [bytesV (scrB s), .i64 0]) := by
  have hc := c_ScriptFault s hok
  rw [h0] at hc
  obtain ⟨hz, hsd, hst, hjk⟩ := ok_junk h0
  have hsd0 := hz.seed
  have hst0 := hz.steps
  have hjl := hz.junk
  have hbl := hz.z.blocks
  have hvl := hz.z.values
  have hjm : s.Junk.length ≤ maxLen := by unfold maxLen; omega
  have hbm : s.Func.Blocks.length ≤ maxLen := by unfold maxLen; omega
  have hJ := eJ_len hz
  have hH := eH_len hz
  have hA : (eC3 s).length = 10 := by unfold eC3 eC2; simp [u8s_len, four_len]
  refine ACallIs.enter B _ _ Try.func20 rfl rfl Try.ntmps20 Try.results20 rfl fun hreal => ?_
  clear hreal
  repeat (first | refine AWp.seq ?_ | refine AWp.block ?_ | refine AWp.skip ?_)
  refine AWp.region ?_
  intro _
  refine AWp.freezeObj 1 rfl rfl ?_
  repeat (first | refine AWp.seq ?_ | refine AWp.block ?_ | refine AWp.skip ?_)
  refine AWp.region ?_
  refine CallX.pure hc rfl rfl rfl ?_
  intro _
  repeat (first | refine AWp.seq ?_ | refine AWp.block ?_ | refine AWp.skip ?_)
  refine AWp.region ?_
  intro _
  repeat (first | refine AWp.seq ?_ | refine AWp.block ?_ | refine AWp.skip ?_)
  refine AWp.cond (And.intro (fun h1 => ?_) (fun h1 => ?_))
  · cases h1
  repeat (first | refine AWp.seq ?_ | refine AWp.block ?_ | refine AWp.skip ?_)
  refine AWp.region ?_
  repeat' refine And.intro ?_ ?_
  all_goals first | exact (fun _ => And.intro (by decide) (by decide)) | decide | skip
  intro _
  refine AWp.rename 26 61 rfl rfl ?_
  refine AWp.weaken (s' := ⟨[(1, .ptr s.cells), (5, .sl 61 (u8s [s.Machine.r0, s.Machine.r1]).length)], [(61, rowU (u8s [s.Machine.r0, s.Machine.r1]))]⟩) ?_ ?_
  · refine And.intro ?_ (And.intro ⟨_, _, rfl, rfl, fun i hi => litB_row (M := u8s [s.Machine.r0, s.Machine.r1]) hi⟩ (And.intro trivial trivial))
    all_goals repeat' (first | exact rfl | exact trivial | refine And.intro ?_ ?_)
  repeat (first | refine AWp.seq ?_ | refine AWp.block ?_ | refine AWp.skip ?_)
  refine AWp.region ?_
  refine CallX.pure (c_fourBytes s.Seed ⟨by omega, by omega⟩) rfl rfl rfl ?_
  refine CallX.lend (m_addBytes (u8s [s.Machine.r0, s.Machine.r1]) (four s.Seed) (by show 2 + 4 ≤ 100000000; decide)) [(1001, 61), (101, 101)] rfl (And.intro rfl trivial) rfl ?_
  intro _
  refine AWp.rename 101 61 rfl rfl ?_
  repeat (first | refine AWp.seq ?_ | refine AWp.block ?_ | refine AWp.skip ?_)
  refine AWp.region ?_
  refine CallX.pure (c_fourBytes s.Steps ⟨by omega, by omega⟩) rfl rfl rfl ?_
  refine CallX.lend (m_addBytes (eC2 s) (four s.Steps) (by show 6 + 4 ≤ 100000000; decide)) [(1001, 61), (101, 101)] rfl (And.intro rfl trivial) rfl ?_
  intro _
  refine AWp.rename 101 61 rfl rfl ?_
  repeat (first | refine AWp.seq ?_ | refine AWp.block ?_ | refine AWp.skip ?_)
  refine AWp.region ?_
  refine And.intro (Nat.le_refl _) (And.intro (fun i hi => ?_) (And.intro rfl (And.intro (by show ((eC3 s).length + 1) * 1 ≤ _; omega) ?_)))
  · have e : i = 0 := by omega
    subst e; rfl
  intro _
  refine AWp.rename 43 61 rfl rfl ?_
  refine AWp.weaken (s' := ⟨[(1, .ptr s.cells), (5, .sl 61 (eC3 s ++ u8s [(s.Junk.length : Int)]).length)], [(61, rowU (eC3 s ++ u8s [(s.Junk.length : Int)]))]⟩) ?_ ?_
  · have hSl : (eC3 s ++ u8s [(s.Junk.length : Int)]).length = (eC3 s).length + 1 := List.length_append
    refine And.intro ?_ (And.intro ⟨_, _, rfl, hSl.symm, fun i hi => by rw [hSl] at hi; exact appB_row (M := u8s [(s.Junk.length : Int)]) hi⟩ (And.intro trivial trivial))
    all_goals repeat' (first | exact rfl | exact trivial | exact congrArg (fun n => some (AV.sl 61 n)) hSl.symm | refine And.intro ?_ ?_)
  repeat (first | refine AWp.seq ?_ | refine AWp.block ?_ | refine AWp.skip ?_)
  refine AWp.region ?_
  intro _
  repeat (first | refine AWp.seq ?_ | refine AWp.block ?_ | refine AWp.skip ?_)
  refine AWp.loop (fun j : Nat => ⟨[(1, .ptr s.cells), (5, .sl 61 (eJ s j).length), (6, .i64 j)], [(61, rowU (eJ s j))]⟩) (fun j => j ≤ s.Junk.length) (fun j => s.Junk.length - j) 0 (Nat.zero_le _) ?_ ?_
  · refine And.intro ?_ (And.intro ⟨_, _, rfl, congrArg List.length (eJ_zero s), fun i hi => congrArg (fun M : List Int => byC (M.getD i default)) (eJ_zero s).symm⟩ (And.intro trivial trivial))
    all_goals repeat' (first | exact rfl | exact trivial | exact congrArg (fun M : List Int => some (AV.sl 61 M.length)) (eJ_zero s) | refine And.intro ?_ ?_)
  intro j hj
  repeat (first | refine AWp.seq ?_ | refine AWp.block ?_ | refine AWp.skip ?_)
  refine AWp.region ?_
  intro _
  repeat (first | refine AWp.seq ?_ | refine AWp.block ?_ | refine AWp.skip ?_)
  refine AWp.cond (And.intro (fun qj => ?_) (fun qj => ?_))
  · have hj' : j < s.Junk.length := Int.ofNat_lt.1 (of_decide_eq_true qj)
    have hJj := hJ j
    repeat (first | refine AWp.seq ?_ | refine AWp.block ?_ | refine AWp.skip ?_)
    refine AWp.region ?_
    refine And.intro (fun _ => And.intro (Int.natCast_nonneg _) (Int.ofNat_lt.2 hj')) ?_
    refine CallX.pure (c_fourBytes (s.Junk.getD j default) (hjk j hj')) rfl rfl rfl ?_
    refine CallX.lend (m_addBytes (eJ s j) (four (s.Junk.getD j default)) (by rw [four_len]; omega)) [(1001, 61), (101, 101)] rfl (And.intro rfl trivial) rfl ?_
    intro _
    refine AWp.rename 101 61 rfl rfl ?_
    repeat (first | refine AWp.seq ?_ | refine AWp.block ?_ | refine AWp.skip ?_)
    refine AWp.region ?_
    intro _
    refine round_end (j + 1) hj' ?_ (by omega)
    refine And.intro ?_ (And.intro ⟨_, _, rfl, congrArg List.length (eJ_succ hj'), fun i hi => congrArg (fun M : List Int => byC (M.getD i default)) (eJ_succ hj').symm⟩ (And.intro trivial trivial))
    all_goals repeat' (first | exact rfl | exact trivial | exact congrArg (fun M : List Int => some (AV.sl 61 M.length)) (eJ_succ hj') | exact congrArg (fun z => some (AV.i64 z)) (wrap_succ hj' hjm) | refine And.intro ?_ ?_)
  have hj3 : ¬ (j : Int) < s.Junk.length := of_decide_eq_false qj
  obtain rfl : j = s.Junk.length := by omega
  refine AWp.exit ?_
  have hJ1 := hJ s.Junk.length
  repeat (first | refine AWp.seq ?_ | refine AWp.block ?_ | refine AWp.skip ?_)
  refine AWp.region ?_
  refine CallX.pure (c_counted s.Func.Values (by omega)) rfl rfl rfl ?_
  refine CallX.lend (m_addBytes (eJ s s.Junk.length) (cntB s.Func.Values) (by rw [cntB_len]; omega)) [(1001, 61), (101, 101)] rfl (And.intro rfl trivial) rfl ?_
  intro _
  refine AWp.rename 101 61 rfl rfl ?_
  have hA6 : (eC6 s).length ≤ 1000 := by unfold eC6; rw [List.length_append, cntB_len]; omega
  repeat (first | refine AWp.seq ?_ | refine AWp.block ?_ | refine AWp.skip ?_)
  refine AWp.region ?_
  refine And.intro (Nat.le_refl _) (And.intro (fun i hi => ?_) (And.intro rfl (And.intro (by show ((eC6 s).length + 1) * 1 ≤ _; omega) ?_)))
  · have e : i = 0 := by omega
    subst e; rfl
  intro _
  refine AWp.rename 72 61 rfl rfl ?_
  refine AWp.weaken (s' := ⟨[(1, .ptr s.cells), (5, .sl 61 (eC6 s ++ u8s [(s.Func.Blocks.length : Int)]).length)], [(61, rowU (eC6 s ++ u8s [(s.Func.Blocks.length : Int)]))]⟩) ?_ ?_
  · have hSl : (eC6 s ++ u8s [(s.Func.Blocks.length : Int)]).length = (eC6 s).length + 1 := List.length_append
    refine And.intro ?_ (And.intro ⟨_, _, rfl, hSl.symm, fun i hi => by rw [hSl] at hi; exact appB_row (M := u8s [(s.Func.Blocks.length : Int)]) hi⟩ (And.intro trivial trivial))
    all_goals repeat' (first | exact rfl | exact trivial | exact congrArg (fun n => some (AV.sl 61 n)) hSl.symm | refine And.intro ?_ ?_)
  repeat (first | refine AWp.seq ?_ | refine AWp.block ?_ | refine AWp.skip ?_)
  refine AWp.region ?_
  intro _
  repeat (first | refine AWp.seq ?_ | refine AWp.block ?_ | refine AWp.skip ?_)
  refine AWp.loop (fun k : Nat => ⟨[(1, .ptr s.cells), (5, .sl 61 (eH s k).length), (7, .i64 k)], [(61, rowU (eH s k))]⟩) (fun k => k ≤ s.Func.Blocks.length) (fun k => s.Func.Blocks.length - k) 0 (Nat.zero_le _) ?_ ?_
  · refine And.intro ?_ (And.intro ⟨_, _, rfl, congrArg List.length (eH_zero s), fun i hi => congrArg (fun M : List Int => byC (M.getD i default)) (eH_zero s).symm⟩ (And.intro trivial trivial))
    all_goals repeat' (first | exact rfl | exact trivial | exact congrArg (fun M : List Int => some (AV.sl 61 M.length)) (eH_zero s) | refine And.intro ?_ ?_)
  intro k hk
  repeat (first | refine AWp.seq ?_ | refine AWp.block ?_ | refine AWp.skip ?_)
  refine AWp.region ?_
  intro _
  repeat (first | refine AWp.seq ?_ | refine AWp.block ?_ | refine AWp.skip ?_)
  refine AWp.cond (And.intro (fun qk => ?_) (fun qk => ?_))
  · have hk' : k < s.Func.Blocks.length := Int.ofNat_lt.1 (of_decide_eq_true qk)
    have hHk := hH k
    have hIk := eI_len hz hk'
    have hGk := eG_len hz hk'
    have hin := hz.z.instrs k hk'
    have hed := hz.z.edges k hk'
    have hpa := hz.z.params k hk'
    have him : (s.Func.Blocks.getD k default).Instrs.length ≤ maxLen := by unfold maxLen; omega
    have hem : (s.Func.Blocks.getD k default).Edges.length ≤ maxLen := by unfold maxLen; omega
    have hB1 : (eB1 s k).length ≤ 40010 := by unfold eB1; rw [List.length_append, cntB_len]; omega
    repeat (first | refine AWp.seq ?_ | refine AWp.block ?_ | refine AWp.skip ?_)
    refine AWp.region ?_
    refine And.intro (fun _ => And.intro (Int.natCast_nonneg _) (Int.ofNat_lt.2 hk')) ?_
    intro _
    refine AWp.freezeObj 8 rfl rfl ?_
    repeat (first | refine AWp.seq ?_ | refine AWp.block ?_ | refine AWp.skip ?_)
    refine AWp.region ?_
    refine CallX.pure (c_counted (s.Func.Blocks.getD k default).Params (by omega)) rfl rfl rfl ?_
    refine CallX.lend (m_addBytes (eH s k) (cntB (s.Func.Blocks.getD k default).Params) (by rw [cntB_len]; omega)) [(1001, 61), (101, 101)] rfl (And.intro rfl trivial) rfl ?_
    intro _
    refine AWp.rename 101 61 rfl rfl ?_
    repeat (first | refine AWp.seq ?_ | refine AWp.block ?_ | refine AWp.skip ?_)
    refine AWp.region ?_
    refine And.intro (Nat.le_refl _) (And.intro (fun i hi => ?_) (And.intro rfl (And.intro (by show ((eB1 s k).length + 1) * 1 ≤ _; omega) ?_)))
    · have e : i = 0 := by omega
      subst e; rfl
    intro _
    refine AWp.rename 98 61 rfl rfl ?_
    refine AWp.weaken (s' := ⟨[(1, .ptr s.cells), (7, .i64 k), (8, .ptr (s.Func.Blocks.getD k default).cells), (5, .sl 61 (eB1 s k ++ u8s [((s.Func.Blocks.getD k default).Instrs.length : Int)]).length)], [(61, rowU (eB1 s k ++ u8s [((s.Func.Blocks.getD k default).Instrs.length : Int)]))]⟩) ?_ ?_
    · have hSl : (eB1 s k ++ u8s [((s.Func.Blocks.getD k default).Instrs.length : Int)]).length = (eB1 s k).length + 1 := List.length_append
      refine And.intro ?_ (And.intro ⟨_, _, rfl, hSl.symm, fun i hi => by rw [hSl] at hi; exact appB_row (M := u8s [((s.Func.Blocks.getD k default).Instrs.length : Int)]) hi⟩ (And.intro trivial trivial))
      all_goals repeat' (first | exact rfl | exact trivial | exact congrArg (fun n => some (AV.sl 61 n)) hSl.symm | refine And.intro ?_ ?_)
    repeat (first | refine AWp.seq ?_ | refine AWp.block ?_ | refine AWp.skip ?_)
    refine AWp.region ?_
    intro _
    repeat (first | refine AWp.seq ?_ | refine AWp.block ?_ | refine AWp.skip ?_)
    refine AWp.loop (fun i : Nat => ⟨[(1, .ptr s.cells), (7, .i64 k), (8, .ptr (s.Func.Blocks.getD k default).cells), (5, .sl 61 (eI s k i).length), (9, .i64 i)], [(61, rowU (eI s k i))]⟩) (fun i => i ≤ (s.Func.Blocks.getD k default).Instrs.length) (fun i => (s.Func.Blocks.getD k default).Instrs.length - i) 0 (Nat.zero_le _) ?_ ?_
    · refine And.intro ?_ (And.intro ⟨_, _, rfl, congrArg List.length (eI_zero s k), fun i hi => congrArg (fun M : List Int => byC (M.getD i default)) (eI_zero s k).symm⟩ (And.intro trivial trivial))
      all_goals repeat' (first | exact rfl | exact trivial | exact congrArg (fun M : List Int => some (AV.sl 61 M.length)) (eI_zero s k) | refine And.intro ?_ ?_)
    intro i hi
    repeat (first | refine AWp.seq ?_ | refine AWp.block ?_ | refine AWp.skip ?_)
    refine AWp.region ?_
    intro _
    repeat (first | refine AWp.seq ?_ | refine AWp.block ?_ | refine AWp.skip ?_)
    refine AWp.cond (And.intro (fun qi => ?_) (fun qi => ?_))
    · have hi' : i < (s.Func.Blocks.getD k default).Instrs.length := Int.ofNat_lt.1 (of_decide_eq_true qi)
      have hIi := hIk i
      have hil := insB_len (hz.z.ops k i hk' hi') (hz.z.spo k i hk' hi')
      repeat (first | refine AWp.seq ?_ | refine AWp.block ?_ | refine AWp.skip ?_)
      refine AWp.region ?_
      refine And.intro (fun _ => And.intro (Int.natCast_nonneg _) (Int.ofNat_lt.2 hi')) ?_
      refine CallX.pure (c_instrBytes ((s.Func.Blocks.getD k default).Instrs.getD i default) (hz.z.ops k i hk' hi') (hz.z.spo k i hk' hi')) rfl rfl rfl ?_
      refine CallX.lend (m_addBytes (eI s k i) (insB ((s.Func.Blocks.getD k default).Instrs.getD i default)) (by omega)) [(1001, 61), (101, 101)] rfl (And.intro rfl trivial) rfl ?_
      intro _
      refine AWp.rename 101 61 rfl rfl ?_
      repeat (first | refine AWp.seq ?_ | refine AWp.block ?_ | refine AWp.skip ?_)
      refine AWp.region ?_
      intro _
      refine round_end (i + 1) hi' ?_ (by omega)
      refine And.intro ?_ (And.intro ⟨_, _, rfl, congrArg List.length (eI_succ hi'), fun i hi => congrArg (fun M : List Int => byC (M.getD i default)) (eI_succ hi').symm⟩ (And.intro trivial trivial))
      all_goals repeat' (first | exact rfl | exact trivial | exact congrArg (fun M : List Int => some (AV.sl 61 M.length)) (eI_succ hi') | exact congrArg (fun z => some (AV.i64 z)) (wrap_succ hi' him) | refine And.intro ?_ ?_)
    have hi3 : ¬ (i : Int) < (s.Func.Blocks.getD k default).Instrs.length := of_decide_eq_false qi
    obtain rfl : i = (s.Func.Blocks.getD k default).Instrs.length := by omega
    refine AWp.exit ?_
    have hI1 := hIk (s.Func.Blocks.getD k default).Instrs.length
    repeat (first | refine AWp.seq ?_ | refine AWp.block ?_ | refine AWp.skip ?_)
    refine AWp.region ?_
    refine And.intro (Nat.le_refl _) (And.intro (fun i hi => ?_) (And.intro rfl (And.intro (by show ((eI s k (s.Func.Blocks.getD k default).Instrs.length).length + 1) * 1 ≤ _; omega) ?_)))
    · have e : i = 0 := by omega
      subst e; rfl
    intro _
    refine AWp.rename 120 61 rfl rfl ?_
    refine AWp.weaken (s' := ⟨[(1, .ptr s.cells), (7, .i64 k), (8, .ptr (s.Func.Blocks.getD k default).cells), (5, .sl 61 (eI s k (s.Func.Blocks.getD k default).Instrs.length ++ u8s [((s.Func.Blocks.getD k default).Edges.length : Int)]).length)], [(61, rowU (eI s k (s.Func.Blocks.getD k default).Instrs.length ++ u8s [((s.Func.Blocks.getD k default).Edges.length : Int)]))]⟩) ?_ ?_
    · have hSl : (eI s k (s.Func.Blocks.getD k default).Instrs.length ++ u8s [((s.Func.Blocks.getD k default).Edges.length : Int)]).length = (eI s k (s.Func.Blocks.getD k default).Instrs.length).length + 1 := List.length_append
      refine And.intro ?_ (And.intro ⟨_, _, rfl, hSl.symm, fun i hi => by rw [hSl] at hi; exact appB_row (M := u8s [((s.Func.Blocks.getD k default).Edges.length : Int)]) hi⟩ (And.intro trivial trivial))
      all_goals repeat' (first | exact rfl | exact trivial | exact congrArg (fun n => some (AV.sl 61 n)) hSl.symm | refine And.intro ?_ ?_)
    repeat (first | refine AWp.seq ?_ | refine AWp.block ?_ | refine AWp.skip ?_)
    refine AWp.region ?_
    intro _
    repeat (first | refine AWp.seq ?_ | refine AWp.block ?_ | refine AWp.skip ?_)
    refine AWp.loop (fun j : Nat => ⟨[(1, .ptr s.cells), (7, .i64 k), (8, .ptr (s.Func.Blocks.getD k default).cells), (5, .sl 61 (eG s k j).length), (10, .i64 j)], [(61, rowU (eG s k j))]⟩) (fun j => j ≤ (s.Func.Blocks.getD k default).Edges.length) (fun j => (s.Func.Blocks.getD k default).Edges.length - j) 0 (Nat.zero_le _) ?_ ?_
    · refine And.intro ?_ (And.intro ⟨_, _, rfl, congrArg List.length (eG_zero s k), fun i hi => congrArg (fun M : List Int => byC (M.getD i default)) (eG_zero s k).symm⟩ (And.intro trivial trivial))
      all_goals repeat' (first | exact rfl | exact trivial | exact congrArg (fun M : List Int => some (AV.sl 61 M.length)) (eG_zero s k) | refine And.intro ?_ ?_)
    intro j hj
    repeat (first | refine AWp.seq ?_ | refine AWp.block ?_ | refine AWp.skip ?_)
    refine AWp.region ?_
    intro _
    repeat (first | refine AWp.seq ?_ | refine AWp.block ?_ | refine AWp.skip ?_)
    refine AWp.cond (And.intro (fun qj => ?_) (fun qj => ?_))
    · have hj' : j < (s.Func.Blocks.getD k default).Edges.length := Int.ofNat_lt.1 (of_decide_eq_true qj)
      have hGj := hGk j
      have har := hz.args k j hk' hj'
      repeat (first | refine AWp.seq ?_ | refine AWp.block ?_ | refine AWp.skip ?_)
      refine AWp.region ?_
      refine And.intro (fun _ => And.intro (Int.natCast_nonneg _) (Int.ofNat_lt.2 hj')) ?_
      refine And.intro (Nat.le_refl _) (And.intro (fun i hi => ?_) (And.intro rfl (And.intro (by show ((eG s k j).length + 1) * 1 ≤ _; omega) ?_)))
      · have e : i = 0 := by omega
        subst e; rfl
      intro _
      refine AWp.rename 137 61 rfl rfl ?_
      refine AWp.weaken (s' := ⟨[(1, .ptr s.cells), (7, .i64 k), (8, .ptr (s.Func.Blocks.getD k default).cells), (10, .i64 j), (5, .sl 61 (eG s k j ++ u8s [((s.Func.Blocks.getD k default).Edges.getD j default).Block]).length)], [(61, rowU (eG s k j ++ u8s [((s.Func.Blocks.getD k default).Edges.getD j default).Block]))]⟩) ?_ ?_
      · have hSl : (eG s k j ++ u8s [((s.Func.Blocks.getD k default).Edges.getD j default).Block]).length = (eG s k j).length + 1 := List.length_append
        refine And.intro ?_ (And.intro ⟨_, _, rfl, hSl.symm, fun i hi => by rw [hSl] at hi; exact appB_row (M := u8s [((s.Func.Blocks.getD k default).Edges.getD j default).Block]) hi⟩ (And.intro trivial trivial))
        all_goals repeat' (first | exact rfl | exact trivial | exact congrArg (fun n => some (AV.sl 61 n)) hSl.symm | refine And.intro ?_ ?_)
      repeat (first | refine AWp.seq ?_ | refine AWp.block ?_ | refine AWp.skip ?_)
      refine AWp.region ?_
      refine And.intro (fun _ => And.intro (Int.natCast_nonneg _) (Int.ofNat_lt.2 hj')) ?_
      refine CallX.pure (c_counted ((s.Func.Blocks.getD k default).Edges.getD j default).Args (by omega)) rfl rfl rfl ?_
      refine CallX.lend (m_addBytes (eG s k j ++ u8s [((s.Func.Blocks.getD k default).Edges.getD j default).Block]) (cntB ((s.Func.Blocks.getD k default).Edges.getD j default).Args) (by rw [List.length_append, u8s_len, cntB_len]; show _ + 1 + _ ≤ _; omega)) [(1001, 61), (101, 101)] rfl (And.intro rfl trivial) rfl ?_
      intro _
      refine AWp.rename 101 61 rfl rfl ?_
      repeat (first | refine AWp.seq ?_ | refine AWp.block ?_ | refine AWp.skip ?_)
      refine AWp.region ?_
      intro _
      refine round_end (j + 1) hj' ?_ (by omega)
      refine And.intro ?_ (And.intro ⟨_, _, rfl, congrArg List.length (eG_succ hj'), fun i hi => congrArg (fun M : List Int => byC (M.getD i default)) (eG_succ hj').symm⟩ (And.intro trivial trivial))
      all_goals repeat' (first | exact rfl | exact trivial | exact congrArg (fun M : List Int => some (AV.sl 61 M.length)) (eG_succ hj') | exact congrArg (fun z => some (AV.i64 z)) (wrap_succ hj' hem) | refine And.intro ?_ ?_)
    have hj3 : ¬ (j : Int) < (s.Func.Blocks.getD k default).Edges.length := of_decide_eq_false qj
    obtain rfl : j = (s.Func.Blocks.getD k default).Edges.length := by omega
    refine AWp.exit ?_
    repeat (first | refine AWp.seq ?_ | refine AWp.block ?_ | refine AWp.skip ?_)
    refine AWp.region ?_
    intro _
    refine round_end (k + 1) hk' ?_ (by omega)
    refine And.intro ?_ (And.intro ⟨_, _, rfl, congrArg List.length (eH_succ hk'), fun i hi => congrArg (fun M : List Int => byC (M.getD i default)) (eH_succ hk').symm⟩ (And.intro trivial trivial))
    all_goals repeat' (first | exact rfl | exact trivial | exact congrArg (fun M : List Int => some (AV.sl 61 M.length)) (eH_succ hk') | exact congrArg (fun z => some (AV.i64 z)) (wrap_succ hk' hbm) | refine And.intro ?_ ?_)
  have hk3 : ¬ (k : Int) < s.Func.Blocks.length := of_decide_eq_false qk
  obtain rfl : k = s.Func.Blocks.length := by omega
  refine AWp.exit ?_
  refine AWp.freeze 61 (fun i => byC ((eH s s.Func.Blocks.length).getD i default)) rfl (fun i hi => rfl) ?_
  repeat (first | refine AWp.seq ?_ | refine AWp.block ?_ | refine AWp.skip ?_)
  refine AWp.region ?_
  intro _
  refine AWp.ret ⟨Or.inl rfl, rfl, ?_⟩
  intro _
  exact congrArg (fun M : List Int => AV.tup [bytesV M, .i64 0]) (eH_all s)
theorem c_EncodeNo (s : Scr) (hok : Scr.ok s) (h0 : scrF s ≠ 0) : ACallIs B.P 19 [s.av] (.tup [.val (.slice none 0 0), .i64 (scrF s)]) := by
  have hc := c_WireCheck s hok
  refine ACallIs.enter B _ _ Try.func19 rfl rfl Try.ntmps19 Try.results19 rfl fun hreal => ?_
  clear hreal
  repeat (first | refine AWp.seq ?_ | refine AWp.block ?_ | refine AWp.skip ?_)
  refine AWp.region ?_
  intro _
  refine AWp.freezeObj 1 rfl rfl ?_
  repeat (first | refine AWp.seq ?_ | refine AWp.block ?_ | refine AWp.skip ?_)
  refine AWp.region ?_
  refine CallX.pure hc rfl rfl rfl ?_
  intro _
  repeat (first | refine AWp.seq ?_ | refine AWp.block ?_ | refine AWp.skip ?_)
  refine AWp.region ?_
  intro _
  repeat (first | refine AWp.seq ?_ | refine AWp.block ?_ | refine AWp.skip ?_)
  refine AWp.cond (And.intro (fun h1 => ?_) (fun h1 => ?_))
  · repeat (first | refine AWp.seq ?_ | refine AWp.block ?_ | refine AWp.skip ?_)
    refine AWp.region ?_
    intro _
    refine AWp.ret ⟨Or.inl rfl, rfl, ?_⟩
    intro _
    rfl
  · exfalso
    have h1 : (scrF s != 0) = false := h1
    exact h0 (by simpa using h1)
theorem c_ScriptBytesNo (s : Scr) (hok : Scr.ok s) (h0 : scrF s ≠ 0) : ACallIs B.P 20 [s.av] (.tup [.val (.slice none 0 0), .i64 (scrF s)]) := by
  have hc := c_ScriptFault s hok
  refine ACallIs.enter B _ _ Try.func20 rfl rfl Try.ntmps20 Try.results20 rfl fun hreal => ?_
  clear hreal
  repeat (first | refine AWp.seq ?_ | refine AWp.block ?_ | refine AWp.skip ?_)
  refine AWp.region ?_
  intro _
  refine AWp.freezeObj 1 rfl rfl ?_
  repeat (first | refine AWp.seq ?_ | refine AWp.block ?_ | refine AWp.skip ?_)
  refine AWp.region ?_
  refine CallX.pure hc rfl rfl rfl ?_
  intro _
  repeat (first | refine AWp.seq ?_ | refine AWp.block ?_ | refine AWp.skip ?_)
  refine AWp.region ?_
  intro _
  repeat (first | refine AWp.seq ?_ | refine AWp.block ?_ | refine AWp.skip ?_)
  refine AWp.cond (And.intro (fun h1 => ?_) (fun h1 => ?_))
  · repeat (first | refine AWp.seq ?_ | refine AWp.block ?_ | refine AWp.skip ?_)
    refine AWp.region ?_
    intro _
    refine AWp.ret ⟨Or.inl rfl, rfl, ?_⟩
    intro _
    rfl
  · exfalso
    have h1 : (scrF s != 0) = false := h1
    exact h0 (by simpa using h1)
end Go.Proofs.Ytpmbbanoiipepaa

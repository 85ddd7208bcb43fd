/- wire.Decode and the document's ScriptOf. Condition: bytes. -/
import Derived.Test.YtnbgpgbbfjaomaaDecX
set_option linter.unusedVariables false
set_option linter.unusedSimpArgs false
/- Contracts of wire's reader's block, slices.Clone at bytes, wire.Decode. Condition: bytes. -/
namespace Go.Proofs.Ytnbgpgbbfjaomaa
open Go Go.Abs Go.RowKit Go.Abs.Gra

set_option maxHeartbeats 2000000 in
theorem m_clIns {D : List Int} (hB : OkB D) (P : List Int) (s : Rd) (hs : Stk D s) (A : List Ins) (hA : A.length < 255) :
    ACallM B.P 60 ⟨[.obj 1005 0, .obj 1004 0], [(1001, rdC D s), (1005, ptrC 1001), (1004, .cells [ints P, .sl ⟨1006, []⟩ A.length, .val (.slice none 0 0)]), (1006, rowL Ins 77 3 Ins.cells A)], .tup [], [(1001, rdC D ((insM D) s).2), (1005, ptrC 1001), (1004, .cells [ints P, .sl ⟨9, []⟩ (A ++ [((insM D) s).1]).length, .val (.slice none 0 0)]), (9, rowL Ins 77 3 Ins.cells (A ++ [((insM D) s).1]))]⟩ := by
  have hAl : (A ++ [((insM D) s).1]).length = A.length + 1 := List.length_append
  refine ACallM.enter B _ _ Try.func60 rfl rfl Try.ntmps60 Try.results60 rfl ?_ fun hreal => ?_
  · repeat' (first | exact rfl | exact trivial | refine And.intro ?_ ?_)
  clear hreal
  repeat (first | refine AWp.seq ?_ | refine AWp.block ?_ | refine AWp.skip ?_)
  refine AWp.region ?_
  refine CallX.lend (m_rInstr hB s hs) [(1001, 1001)] rfl (And.intro rfl trivial) rfl ?_
  intro _
  refine AWp.freezeObj 2 rfl rfl ?_
  repeat (first | refine AWp.seq ?_ | refine AWp.block ?_ | refine AWp.skip ?_)
  refine AWp.region ?_
  refine And.intro (Nat.le_refl _) (And.intro (fun i hi => by have e : i = 0 := (by omega); subst e; rfl) (And.intro rfl (And.intro (by omega) ?_)))
  intro _
  refine ⟨Or.inr rfl, ?_⟩
  intro _
  refine And.intro rfl (And.intro trivial (And.intro rfl (And.intro ?_ (And.intro rfl (And.intro ?_ (And.intro (congrArg (fun q : Nat => some (HO.cells [ints P, .sl ⟨9, []⟩ q, .val (.slice none 0 0)])) hAl.symm) (And.intro ?_ (And.intro ⟨_, _, rfl, hAl.symm, fun i hi => by rw [hAl] at hi; exact appL_row (enc := Ins.cells) hi⟩ (And.intro trivial trivial)))))))))
  all_goals repeat' (first | exact rfl | exact trivial | refine And.intro ?_ ?_)
set_option maxHeartbeats 2000000 in
theorem m_eachIns {D : List Int} (hB : OkB D) (P : List Int) (s : Rd) (hs : Stk D s) :
    ACallM B.P 24 ⟨[.obj 1001 0, .fn 60 [.obj 1005 0, .obj 1004 0]], [(1001, rdC D s), (1005, ptrC 1001), (1004, .cells [ints P, .sl ⟨1006, []⟩ ([] : List Ins).length, .val (.slice none 0 0)]), (1006, rowL Ins 77 3 Ins.cells ([] : List Ins))], .tup [], [(1001, rdC D (manF D (insM D) s).2), (1005, ptrC 1001), (1004, .cells [ints P, .sl ⟨101, []⟩ (manF D (insM D) s).1.length, .val (.slice none 0 0)]), (101, rowL Ins 77 3 Ins.cells (manF D (insM D) s).1)]⟩ := by
  have hb := smF_rng hB s
  refine ACallM.enter B _ _ Try.func24 rfl rfl Try.ntmps24 Try.results24 rfl ?_ fun hreal => ?_
  · repeat' (first | exact rfl | exact trivial | refine And.intro ?_ ?_)
  clear hreal
  refine AWp.rename 1006 61 rfl rfl ?_
  repeat (first | refine AWp.seq ?_ | refine AWp.block ?_ | refine AWp.skip ?_)
  refine AWp.region ?_
  refine CallX.lend (m_rSmall hB s hs.1) [(1001, 1001)] rfl (And.intro rfl trivial) rfl ?_
  intro _
  repeat (first | refine AWp.seq ?_ | refine AWp.block ?_ | refine AWp.skip ?_)
  refine AWp.loop (fun q : (Nat × Rd) × List Ins => ⟨[(0, .obj 1001 0), (1, .fn 60 [.obj 1005 0, .obj 1004 0]), (4, .i64 q.1.1)], [(1001, rdC D q.1.2), (1005, ptrC 1001), (1004, .cells [ints P, .sl ⟨61, []⟩ q.2.length, .val (.slice none 0 0)]), (61, rowL Ins 77 3 Ins.cells q.2)]⟩) (fun q => Stk D q.1.2 ∧ q.2.length + q.1.1 ≤ 255 ∧ q.2 ++ (eachF (insM D) q.1.1 q.1.2).1 = (manF D (insM D) s).1 ∧ (eachF (insM D) q.1.1 q.1.2).2 = (manF D (insM D) s).2) (fun q => q.1.1) (((smF D s).1.toNat, (smF D s).2), []) ⟨(smF_rdr D).stk s hs, by show 0 + (smF D s).1.toNat ≤ 255; omega, rfl, rfl⟩ ?_ ?_
  · refine And.intro ?_ (And.intro rfl (And.intro ?_ (And.intro rfl (And.intro ?_ (And.intro rfl (And.intro ?_ (And.intro ⟨_, _, rfl, rfl, fun i hi => absurd hi (Nat.not_lt_zero _)⟩ (And.intro trivial trivial))))))))
    all_goals repeat' (first | exact rfl | exact trivial | exact congrArg (fun z => some (AV.i64 z)) (show (smF D s).1 = (((smF D s).1.toNat : Nat) : Int) from by omega) | refine And.intro ?_ ?_)
  rintro ⟨⟨k, t⟩, A⟩ ⟨ht, hAl, hA, hT⟩
  simp only at ht hAl hA hT
  repeat (first | refine AWp.seq ?_ | refine AWp.block ?_ | refine AWp.skip ?_)
  refine AWp.region ?_
  repeat' refine And.intro ?_ ?_
  all_goals first | exact fun h => h | exact gT | exact gF | exact gN | skip
  intro _
  repeat (first | refine AWp.seq ?_ | refine AWp.block ?_ | refine AWp.skip ?_)
  refine AWp.cond (And.intro (fun h1 => ?_) (fun h1 => ?_))
  · have h1 : (bif decide ((k : Int) > 0) then !t.sh else false) = true := h1
    have hk : 0 < k := by
      rcases Nat.eq_zero_or_pos k with e | e
      · rw [e] at h1; cases h1
      · exact e
    have hsh : t.sh = false := by
      rw [decide_eq_true (show ((k : Int) > 0) from by omega)] at h1
      simpa using h1
    obtain ⟨k, rfl⟩ : ∃ q, k = q + 1 := ⟨k - 1, by omega⟩
    rw [eachF_go hsh] at hA hT
    have hAl2 : (A ++ [((insM D) t).1]).length = A.length + 1 := List.length_append
    have hw : IntKind.i64.wrap (((k + 1 : Nat) : Int) - 1) = (k : Int) := by rw [wrap_in (by omega) (by omega)]; omega
    repeat (first | refine AWp.seq ?_ | refine AWp.block ?_ | refine AWp.skip ?_)
    refine AWp.region ?_
    refine CallX.lend (m_clIns hB P t ht A (by omega)) [(1001, 1001), (1004, 1004), (1005, 1005), (1006, 61), (9, 101)] rfl (And.intro rfl (And.intro rfl (And.intro rfl (And.intro rfl trivial)))) rfl ?_
    intro _
    refine AWp.rename 101 61 rfl rfl ?_
    repeat (first | refine AWp.seq ?_ | refine AWp.block ?_ | refine AWp.skip ?_)
    refine AWp.region ?_
    intro _
    refine round_end ((k, ((insM D) t).2), A ++ [((insM D) t).1]) ⟨(insM_rdr D).stk t ht, by show (A ++ [((insM D) t).1]).length + k ≤ 255; rw [hAl2]; omega, by rw [← hA]; exact List.append_assoc .., hT⟩ ?_ (by show k < k + 1; omega)
    refine And.intro ?_ (And.intro rfl (And.intro ?_ (And.intro rfl (And.intro ?_ (And.intro rfl (And.intro ?_ (And.intro ⟨_, _, rfl, rfl, fun i hi => rfl⟩ (And.intro trivial trivial))))))))
    all_goals repeat' (first | exact rfl | exact trivial | exact congrArg (fun z => some (AV.i64 z)) hw | refine And.intro ?_ ?_)
  · have h1 : (bif decide ((k : Int) > 0) then !t.sh else false) = false := h1
    have hfin : eachF (insM D) k t = ([], t) := by
      rcases Nat.eq_zero_or_pos k with e | e
      · subst e; rfl
      · rw [decide_eq_true (show ((k : Int) > 0) from by omega)] at h1
        exact eachF_stop (by simpa using h1)
    rw [hfin] at hA hT
    have hA : A = (manF D (insM D) s).1 := (List.append_nil A).symm.trans hA
    have hT : t = (manF D (insM D) s).2 := hT
    subst hA hT
    refine AWp.rename 61 101 rfl rfl ?_
    refine AWp.exit ?_
    refine ⟨Or.inr rfl, ?_⟩
    intro _
    refine And.intro rfl (And.intro trivial (And.intro rfl (And.intro ?_ (And.intro rfl (And.intro ?_ (And.intro rfl (And.intro ?_ (And.intro ⟨_, _, rfl, rfl, fun i hi => rfl⟩ (And.intro trivial trivial)))))))))
    all_goals repeat' (first | exact rfl | exact trivial | refine And.intro ?_ ?_)
set_option maxHeartbeats 2000000 in
theorem m_clEdg {D : List Int} (hB : OkB D) (P : List Int) (I : List Ins) (s : Rd) (hs : Stk D s) (A : List Edg) (hA : A.length < 255) :
    ACallM B.P 62 ⟨[.obj 1005 0, .obj 1004 0], [(1001, rdC D s), (1005, ptrC 1001), (1004, .cells [ints P, roL 3 Ins.cells I, .sl ⟨1006, []⟩ A.length]), (1006, rowL Edg 80 2 Edg.cells A)], .tup [], [(1001, rdC D ((edF D) s).2), (1005, ptrC 1001), (1004, .cells [ints P, roL 3 Ins.cells I, .sl ⟨13, []⟩ (A ++ [((edF D) s).1]).length]), (13, rowL Edg 80 2 Edg.cells (A ++ [((edF D) s).1]))]⟩ := by
  have hAl : (A ++ [((edF D) s).1]).length = A.length + 1 := List.length_append
  refine ACallM.enter B _ _ Try.func62 rfl rfl Try.ntmps62 Try.results62 rfl ?_ fun hreal => ?_
  · repeat' (first | exact rfl | exact trivial | refine And.intro ?_ ?_)
  clear hreal
  have s1 := (smF_rdr D).stk s hs
  repeat (first | refine AWp.seq ?_ | refine AWp.block ?_ | refine AWp.skip ?_)
  refine AWp.region ?_
  refine CallX.lend (m_rSmall hB s hs.1) [(1001, 1001)] rfl (And.intro rfl trivial) rfl ?_
  intro _
  repeat (first | refine AWp.seq ?_ | refine AWp.block ?_ | refine AWp.skip ?_)
  refine AWp.region ?_
  refine CallX.lend (m_rList hB _ s1) [(1001, 1001)] rfl (And.intro rfl trivial) rfl ?_
  intro _
  refine AWp.freezeObj 2 rfl rfl ?_
  repeat (first | refine AWp.seq ?_ | refine AWp.block ?_ | refine AWp.skip ?_)
  refine AWp.region ?_
  refine And.intro (Nat.le_refl _) (And.intro (fun i hi => by have e : i = 0 := (by omega); subst e; rfl) (And.intro rfl (And.intro (by omega) ?_)))
  intro _
  refine ⟨Or.inr rfl, ?_⟩
  intro _
  refine And.intro rfl (And.intro trivial (And.intro rfl (And.intro ?_ (And.intro rfl (And.intro ?_ (And.intro (congrArg (fun q : Nat => some (HO.cells [ints P, roL 3 Ins.cells I, .sl ⟨13, []⟩ q])) hAl.symm) (And.intro ?_ (And.intro ⟨_, _, rfl, hAl.symm, fun i hi => by rw [hAl] at hi; exact appL_row (enc := Edg.cells) hi⟩ (And.intro trivial trivial)))))))))
  all_goals repeat' (first | exact rfl | exact trivial | refine And.intro ?_ ?_)
set_option maxHeartbeats 2000000 in
theorem m_eachEdg {D : List Int} (hB : OkB D) (P : List Int) (I : List Ins) (s : Rd) (hs : Stk D s) :
    ACallM B.P 24 ⟨[.obj 1001 0, .fn 62 [.obj 1005 0, .obj 1004 0]], [(1001, rdC D s), (1005, ptrC 1001), (1004, .cells [ints P, roL 3 Ins.cells I, .sl ⟨1006, []⟩ ([] : List Edg).length]), (1006, rowL Edg 80 2 Edg.cells ([] : List Edg))], .tup [], [(1001, rdC D (manF D (edF D) s).2), (1005, ptrC 1001), (1004, .cells [ints P, roL 3 Ins.cells I, .sl ⟨101, []⟩ (manF D (edF D) s).1.length]), (101, rowL Edg 80 2 Edg.cells (manF D (edF D) s).1)]⟩ := by
  have hb := smF_rng hB s
  refine ACallM.enter B _ _ Try.func24 rfl rfl Try.ntmps24 Try.results24 rfl ?_ fun hreal => ?_
  · repeat' (first | exact rfl | exact trivial | refine And.intro ?_ ?_)
  clear hreal
  refine AWp.rename 1006 61 rfl rfl ?_
  repeat (first | refine AWp.seq ?_ | refine AWp.block ?_ | refine AWp.skip ?_)
  refine AWp.region ?_
  refine CallX.lend (m_rSmall hB s hs.1) [(1001, 1001)] rfl (And.intro rfl trivial) rfl ?_
  intro _
  repeat (first | refine AWp.seq ?_ | refine AWp.block ?_ | refine AWp.skip ?_)
  refine AWp.loop (fun q : (Nat × Rd) × List Edg => ⟨[(0, .obj 1001 0), (1, .fn 62 [.obj 1005 0, .obj 1004 0]), (4, .i64 q.1.1)], [(1001, rdC D q.1.2), (1005, ptrC 1001), (1004, .cells [ints P, roL 3 Ins.cells I, .sl ⟨61, []⟩ q.2.length]), (61, rowL Edg 80 2 Edg.cells q.2)]⟩) (fun q => Stk D q.1.2 ∧ q.2.length + q.1.1 ≤ 255 ∧ q.2 ++ (eachF (edF D) q.1.1 q.1.2).1 = (manF D (edF D) s).1 ∧ (eachF (edF D) q.1.1 q.1.2).2 = (manF D (edF D) s).2) (fun q => q.1.1) (((smF D s).1.toNat, (smF D s).2), []) ⟨(smF_rdr D).stk s hs, by show 0 + (smF D s).1.toNat ≤ 255; omega, rfl, rfl⟩ ?_ ?_
  · refine And.intro ?_ (And.intro rfl (And.intro ?_ (And.intro rfl (And.intro ?_ (And.intro rfl (And.intro ?_ (And.intro ⟨_, _, rfl, rfl, fun i hi => absurd hi (Nat.not_lt_zero _)⟩ (And.intro trivial trivial))))))))
    all_goals repeat' (first | exact rfl | exact trivial | exact congrArg (fun z => some (AV.i64 z)) (show (smF D s).1 = (((smF D s).1.toNat : Nat) : Int) from by omega) | refine And.intro ?_ ?_)
  rintro ⟨⟨k, t⟩, A⟩ ⟨ht, hAl, hA, hT⟩
  simp only at ht hAl hA hT
  repeat (first | refine AWp.seq ?_ | refine AWp.block ?_ | refine AWp.skip ?_)
  refine AWp.region ?_
  repeat' refine And.intro ?_ ?_
  all_goals first | exact fun h => h | exact gT | exact gF | exact gN | skip
  intro _
  repeat (first | refine AWp.seq ?_ | refine AWp.block ?_ | refine AWp.skip ?_)
  refine AWp.cond (And.intro (fun h1 => ?_) (fun h1 => ?_))
  · have h1 : (bif decide ((k : Int) > 0) then !t.sh else false) = true := h1
    have hk : 0 < k := by
      rcases Nat.eq_zero_or_pos k with e | e
      · rw [e] at h1; cases h1
      · exact e
    have hsh : t.sh = false := by
      rw [decide_eq_true (show ((k : Int) > 0) from by omega)] at h1
      simpa using h1
    obtain ⟨k, rfl⟩ : ∃ q, k = q + 1 := ⟨k - 1, by omega⟩
    rw [eachF_go hsh] at hA hT
    have hAl2 : (A ++ [((edF D) t).1]).length = A.length + 1 := List.length_append
    have hw : IntKind.i64.wrap (((k + 1 : Nat) : Int) - 1) = (k : Int) := by rw [wrap_in (by omega) (by omega)]; omega
    repeat (first | refine AWp.seq ?_ | refine AWp.block ?_ | refine AWp.skip ?_)
    refine AWp.region ?_
    refine CallX.lend (m_clEdg hB P I t ht A (by omega)) [(1001, 1001), (1004, 1004), (1005, 1005), (1006, 61), (13, 101)] rfl (And.intro rfl (And.intro rfl (And.intro rfl (And.intro rfl trivial)))) rfl ?_
    intro _
    refine AWp.rename 101 61 rfl rfl ?_
    repeat (first | refine AWp.seq ?_ | refine AWp.block ?_ | refine AWp.skip ?_)
    refine AWp.region ?_
    intro _
    refine round_end ((k, ((edF D) t).2), A ++ [((edF D) t).1]) ⟨(edF_rdr D).stk t ht, by show (A ++ [((edF D) t).1]).length + k ≤ 255; rw [hAl2]; omega, by rw [← hA]; exact List.append_assoc .., hT⟩ ?_ (by show k < k + 1; omega)
    refine And.intro ?_ (And.intro rfl (And.intro ?_ (And.intro rfl (And.intro ?_ (And.intro rfl (And.intro ?_ (And.intro ⟨_, _, rfl, rfl, fun i hi => rfl⟩ (And.intro trivial trivial))))))))
    all_goals repeat' (first | exact rfl | exact trivial | exact congrArg (fun z => some (AV.i64 z)) hw | refine And.intro ?_ ?_)
  · have h1 : (bif decide ((k : Int) > 0) then !t.sh else false) = false := h1
    have hfin : eachF (edF D) k t = ([], t) := by
      rcases Nat.eq_zero_or_pos k with e | e
      · subst e; rfl
      · rw [decide_eq_true (show ((k : Int) > 0) from by omega)] at h1
        exact eachF_stop (by simpa using h1)
    rw [hfin] at hA hT
    have hA : A = (manF D (edF D) s).1 := (List.append_nil A).symm.trans hA
    have hT : t = (manF D (edF D) s).2 := hT
    subst hA hT
    refine AWp.rename 61 101 rfl rfl ?_
    refine AWp.exit ?_
    refine ⟨Or.inr rfl, ?_⟩
    intro _
    refine And.intro rfl (And.intro trivial (And.intro rfl (And.intro ?_ (And.intro rfl (And.intro ?_ (And.intro rfl (And.intro ?_ (And.intro ⟨_, _, rfl, rfl, fun i hi => rfl⟩ (And.intro trivial trivial)))))))))
    all_goals repeat' (first | exact rfl | exact trivial | refine And.intro ?_ ?_)
set_option maxHeartbeats 2000000 in
theorem m_rBlock {D : List Int} (hB : OkB D) (s : Rd) (hs : Stk D s) :
    ACallM B.P 28 ⟨[.obj 1001 0], [(1001, rdC D s)], (bkF D (insM D) s).1.av, [(1001, rdC D (bkF D (insM D) s).2)]⟩ := by
  have s1 := (lstF_rdr D).stk s hs
  have s2 := (manF_rdr (insM_rdr D)).stk _ s1
  refine ACallM.enter B _ _ Try.func28 rfl rfl Try.ntmps28 Try.results28 rfl ?_ fun hreal => ?_
  · repeat' (first | exact rfl | exact trivial | refine And.intro ?_ ?_)
  clear hreal
  repeat (first | refine AWp.seq ?_ | refine AWp.block ?_ | refine AWp.skip ?_)
  refine AWp.region ?_
  intro _
  repeat (first | refine AWp.seq ?_ | refine AWp.block ?_ | refine AWp.skip ?_)
  refine AWp.region ?_
  refine CallX.lend (m_rList hB s hs) [(1001, 1001)] rfl (And.intro rfl trivial) rfl ?_
  intro _
  refine AWp.via (newρ 61) ⟨[(1, .obj 1 0), (2, .obj 2 0), (3, .obj 3 0)], [(1001, rdC D (lstF D s).2), (1, ptrC 1001), (2, .cells [.val (.slice none 0 0), .val (.slice none 0 0), .val (.slice none 0 0)]), (3, .cells [ints (lstF D s).1, .sl 61 0, .val (.slice none 0 0)]), (61, rowL Ins 77 3 Ins.cells [])]⟩ ?_ ?_
  · refine ⟨?_, ?_, newρ_inj 61 _, newρ_old (by decide) _⟩
    · repeat' (first | exact rfl | exact trivial | refine And.intro ?_ ?_)
    · refine And.intro (And.intro ⟨_, ⟨_, rfl, rfl, trivial⟩, rfl⟩ ?_) (And.intro (And.intro ⟨_, ⟨_, rfl, rfl, trivial⟩, rfl⟩ ?_) (And.intro (And.intro ⟨_, ⟨_, rfl, rfl, trivial⟩, rfl⟩ ?_) (And.intro (And.intro ⟨_, ⟨_, rfl, rfl, trivial⟩, rfl⟩ ?_) (And.intro (And.intro ⟨_, _, _, rfl⟩ ?_) (trivial)))))
      all_goals repeat' (first | exact rfl | exact trivial | refine And.intro ?_ ?_)
  repeat (first | refine AWp.seq ?_ | refine AWp.block ?_ | refine AWp.skip ?_)
  refine AWp.region ?_
  refine CallX.lend (m_eachIns hB (lstF D s).1 _ s1) [(1001, 1001), (1004, 3), (1005, 1), (1006, 61), (101, 101)] rfl (And.intro rfl (And.intro rfl (And.intro rfl (And.intro rfl trivial)))) rfl ?_
  intro _
  refine AWp.freeze 101 (fun i => Ins.cells ((manF D (insM D) (lstF D s).2).1.getD i default)) rfl (fun i hi => rfl) ?_
  refine AWp.via (newρ 61) ⟨[(1, .obj 1 0), (2, .obj 2 0), (3, .obj 3 0)], [(1001, rdC D (manF D (insM D) (lstF D s).2).2), (1, ptrC 1001), (2, .cells [.val (.slice none 0 0), .val (.slice none 0 0), .val (.slice none 0 0)]), (3, .cells [ints (lstF D s).1, roL 3 Ins.cells (manF D (insM D) (lstF D s).2).1, .sl 61 0]), (61, rowL Edg 80 2 Edg.cells [])]⟩ ?_ ?_
  · refine ⟨?_, ?_, newρ_inj 61 _, newρ_old (by decide) _⟩
    · repeat' (first | exact rfl | exact trivial | refine And.intro ?_ ?_)
    · refine And.intro (And.intro ⟨_, ⟨_, rfl, rfl, trivial⟩, rfl⟩ ?_) (And.intro (And.intro ⟨_, ⟨_, rfl, rfl, trivial⟩, rfl⟩ ?_) (And.intro (And.intro ⟨_, ⟨_, rfl, rfl, trivial⟩, rfl⟩ ?_) (And.intro (And.intro ⟨_, ⟨_, rfl, rfl, trivial⟩, rfl⟩ ?_) (And.intro (And.intro ⟨_, _, _, rfl⟩ ?_) (trivial)))))
      all_goals repeat' (first | exact rfl | exact trivial | refine And.intro ?_ ?_)
  repeat (first | refine AWp.seq ?_ | refine AWp.block ?_ | refine AWp.skip ?_)
  refine AWp.region ?_
  refine CallX.lend (m_eachEdg hB (lstF D s).1 (manF D (insM D) (lstF D s).2).1 _ s2) [(1001, 1001), (1004, 3), (1005, 1), (1006, 61), (101, 101)] rfl (And.intro rfl (And.intro rfl (And.intro rfl (And.intro rfl trivial)))) rfl ?_
  intro _
  refine AWp.freeze 101 (fun i => Edg.cells ((manF D (edF D) (manF D (insM D) (lstF D s).2).2).1.getD i default)) rfl (fun i hi => rfl) ?_
  repeat (first | refine AWp.seq ?_ | refine AWp.block ?_ | refine AWp.skip ?_)
  refine AWp.region ?_
  intro _
  refine AWp.ret ⟨Or.inl rfl, ?_⟩
  intro _
  refine And.intro rfl (And.intro ?_ (And.intro rfl (And.intro ?_ trivial)))
  all_goals repeat' (first | exact rfl | exact trivial | refine And.intro ?_ ?_)
set_option maxHeartbeats 2000000 in
theorem m_clBlk {D : List Int} (hB : OkB D) (a b c d : Int) (V J : List Int) (s : Rd) (hs : Stk D s) (A : List Blk) (hA : A.length < 255) :
    ACallM B.P 27 ⟨[.obj 1005 0, .obj 1004 0], [(1001, rdC D s), (1005, ptrC 1001), (1004, .cells [.i64 a, .i64 b, ints V, .sl ⟨1006, []⟩ A.length, .i64 c, .i64 d, ints J]), (1006, rowL Blk 68 3 Blk.cells A)], .tup [], [(1001, rdC D ((bkF D (insM D)) s).2), (1005, ptrC 1001), (1004, .cells [.i64 a, .i64 b, ints V, .sl ⟨10, []⟩ (A ++ [((bkF D (insM D)) s).1]).length, .i64 c, .i64 d, ints J]), (10, rowL Blk 68 3 Blk.cells (A ++ [((bkF D (insM D)) s).1]))]⟩ := by
  have hAl : (A ++ [((bkF D (insM D)) s).1]).length = A.length + 1 := List.length_append
  refine ACallM.enter B _ _ Try.func27 rfl rfl Try.ntmps27 Try.results27 rfl ?_ fun hreal => ?_
  · repeat' (first | exact rfl | exact trivial | refine And.intro ?_ ?_)
  clear hreal
  repeat (first | refine AWp.seq ?_ | refine AWp.block ?_ | refine AWp.skip ?_)
  refine AWp.region ?_
  refine CallX.lend (m_rBlock hB s hs) [(1001, 1001)] rfl (And.intro rfl trivial) rfl ?_
  intro _
  refine AWp.freezeObj 2 rfl rfl ?_
  repeat (first | refine AWp.seq ?_ | refine AWp.block ?_ | refine AWp.skip ?_)
  refine AWp.region ?_
  refine And.intro (Nat.le_refl _) (And.intro (fun i hi => by have e : i = 0 := (by omega); subst e; rfl) (And.intro rfl (And.intro (by omega) ?_)))
  intro _
  refine ⟨Or.inr rfl, ?_⟩
  intro _
  refine And.intro rfl (And.intro trivial (And.intro rfl (And.intro ?_ (And.intro rfl (And.intro ?_ (And.intro (congrArg (fun q : Nat => some (HO.cells [.i64 a, .i64 b, ints V, .sl ⟨10, []⟩ q, .i64 c, .i64 d, ints J])) hAl.symm) (And.intro ?_ (And.intro ⟨_, _, rfl, hAl.symm, fun i hi => by rw [hAl] at hi; exact appL_row (enc := Blk.cells) hi⟩ (And.intro trivial trivial)))))))))
  all_goals repeat' (first | exact rfl | exact trivial | refine And.intro ?_ ?_)
set_option maxHeartbeats 2000000 in
theorem m_eachBlk {D : List Int} (hB : OkB D) (a b c d : Int) (V J : List Int) (s : Rd) (hs : Stk D s) :
    ACallM B.P 24 ⟨[.obj 1001 0, .fn 27 [.obj 1005 0, .obj 1004 0]], [(1001, rdC D s), (1005, ptrC 1001), (1004, .cells [.i64 a, .i64 b, ints V, .sl ⟨1006, []⟩ ([] : List Blk).length, .i64 c, .i64 d, ints J]), (1006, rowL Blk 68 3 Blk.cells ([] : List Blk))], .tup [], [(1001, rdC D (manF D (bkF D (insM D)) s).2), (1005, ptrC 1001), (1004, .cells [.i64 a, .i64 b, ints V, .sl ⟨101, []⟩ (manF D (bkF D (insM D)) s).1.length, .i64 c, .i64 d, ints J]), (101, rowL Blk 68 3 Blk.cells (manF D (bkF D (insM D)) s).1)]⟩ := by
  have hb := smF_rng hB s
  refine ACallM.enter B _ _ Try.func24 rfl rfl Try.ntmps24 Try.results24 rfl ?_ fun hreal => ?_
  · repeat' (first | exact rfl | exact trivial | refine And.intro ?_ ?_)
  clear hreal
  refine AWp.rename 1006 61 rfl rfl ?_
  repeat (first | refine AWp.seq ?_ | refine AWp.block ?_ | refine AWp.skip ?_)
  refine AWp.region ?_
  refine CallX.lend (m_rSmall hB s hs.1) [(1001, 1001)] rfl (And.intro rfl trivial) rfl ?_
  intro _
  repeat (first | refine AWp.seq ?_ | refine AWp.block ?_ | refine AWp.skip ?_)
  refine AWp.loop (fun q : (Nat × Rd) × List Blk => ⟨[(0, .obj 1001 0), (1, .fn 27 [.obj 1005 0, .obj 1004 0]), (4, .i64 q.1.1)], [(1001, rdC D q.1.2), (1005, ptrC 1001), (1004, .cells [.i64 a, .i64 b, ints V, .sl ⟨61, []⟩ q.2.length, .i64 c, .i64 d, ints J]), (61, rowL Blk 68 3 Blk.cells q.2)]⟩) (fun q => Stk D q.1.2 ∧ q.2.length + q.1.1 ≤ 255 ∧ q.2 ++ (eachF (bkF D (insM D)) q.1.1 q.1.2).1 = (manF D (bkF D (insM D)) s).1 ∧ (eachF (bkF D (insM D)) q.1.1 q.1.2).2 = (manF D (bkF D (insM D)) s).2) (fun q => q.1.1) (((smF D s).1.toNat, (smF D s).2), []) ⟨(smF_rdr D).stk s hs, by show 0 + (smF D s).1.toNat ≤ 255; omega, rfl, rfl⟩ ?_ ?_
  · refine And.intro ?_ (And.intro rfl (And.intro ?_ (And.intro rfl (And.intro ?_ (And.intro rfl (And.intro ?_ (And.intro ⟨_, _, rfl, rfl, fun i hi => absurd hi (Nat.not_lt_zero _)⟩ (And.intro trivial trivial))))))))
    all_goals repeat' (first | exact rfl | exact trivial | exact congrArg (fun z => some (AV.i64 z)) (show (smF D s).1 = (((smF D s).1.toNat : Nat) : Int) from by omega) | refine And.intro ?_ ?_)
  rintro ⟨⟨k, t⟩, A⟩ ⟨ht, hAl, hA, hT⟩
  simp only at ht hAl hA hT
  repeat (first | refine AWp.seq ?_ | refine AWp.block ?_ | refine AWp.skip ?_)
  refine AWp.region ?_
  repeat' refine And.intro ?_ ?_
  all_goals first | exact fun h => h | exact gT | exact gF | exact gN | skip
  intro _
  repeat (first | refine AWp.seq ?_ | refine AWp.block ?_ | refine AWp.skip ?_)
  refine AWp.cond (And.intro (fun h1 => ?_) (fun h1 => ?_))
  · have h1 : (bif decide ((k : Int) > 0) then !t.sh else false) = true := h1
    have hk : 0 < k := by
      rcases Nat.eq_zero_or_pos k with e | e
      · rw [e] at h1; cases h1
      · exact e
    have hsh : t.sh = false := by
      rw [decide_eq_true (show ((k : Int) > 0) from by omega)] at h1
      simpa using h1
    obtain ⟨k, rfl⟩ : ∃ q, k = q + 1 := ⟨k - 1, by omega⟩
    rw [eachF_go hsh] at hA hT
    have hAl2 : (A ++ [((bkF D (insM D)) t).1]).length = A.length + 1 := List.length_append
    have hw : IntKind.i64.wrap (((k + 1 : Nat) : Int) - 1) = (k : Int) := by rw [wrap_in (by omega) (by omega)]; omega
    repeat (first | refine AWp.seq ?_ | refine AWp.block ?_ | refine AWp.skip ?_)
    refine AWp.region ?_
    refine CallX.lend (m_clBlk hB a b c d V J t ht A (by omega)) [(1001, 1001), (1004, 1004), (1005, 1005), (1006, 61), (10, 101)] rfl (And.intro rfl (And.intro rfl (And.intro rfl (And.intro rfl trivial)))) rfl ?_
    intro _
    refine AWp.rename 101 61 rfl rfl ?_
    repeat (first | refine AWp.seq ?_ | refine AWp.block ?_ | refine AWp.skip ?_)
    refine AWp.region ?_
    intro _
    refine round_end ((k, ((bkF D (insM D)) t).2), A ++ [((bkF D (insM D)) t).1]) ⟨(bkF_rdr (insM_rdr D)).stk t ht, by show (A ++ [((bkF D (insM D)) t).1]).length + k ≤ 255; rw [hAl2]; omega, by rw [← hA]; exact List.append_assoc .., hT⟩ ?_ (by show k < k + 1; omega)
    refine And.intro ?_ (And.intro rfl (And.intro ?_ (And.intro rfl (And.intro ?_ (And.intro rfl (And.intro ?_ (And.intro ⟨_, _, rfl, rfl, fun i hi => rfl⟩ (And.intro trivial trivial))))))))
    all_goals repeat' (first | exact rfl | exact trivial | exact congrArg (fun z => some (AV.i64 z)) hw | refine And.intro ?_ ?_)
  · have h1 : (bif decide ((k : Int) > 0) then !t.sh else false) = false := h1
    have hfin : eachF (bkF D (insM D)) k t = ([], t) := by
      rcases Nat.eq_zero_or_pos k with e | e
      · subst e; rfl
      · rw [decide_eq_true (show ((k : Int) > 0) from by omega)] at h1
        exact eachF_stop (by simpa using h1)
    rw [hfin] at hA hT
    have hA : A = (manF D (bkF D (insM D)) s).1 := (List.append_nil A).symm.trans hA
    have hT : t = (manF D (bkF D (insM D)) s).2 := hT
    subst hA hT
    refine AWp.rename 61 101 rfl rfl ?_
    refine AWp.exit ?_
    refine ⟨Or.inr rfl, ?_⟩
    intro _
    refine And.intro rfl (And.intro trivial (And.intro rfl (And.intro ?_ (And.intro rfl (And.intro ?_ (And.intro rfl (And.intro ?_ (And.intro ⟨_, _, rfl, rfl, fun i hi => rfl⟩ (And.intro trivial trivial)))))))))
    all_goals repeat' (first | exact rfl | exact trivial | refine And.intro ?_ ?_)
theorem ACallIs.case1 {P : Program} {f : FuncId} {x r : AV} (hf : fnB P f = true) (h : ∀ F w v, Rep F w (fun _ => none) x v → ∃ x', Rep F w (fun _ => none) x' v ∧ ACallIs P f [x'] r) : ACallIs P f [x] r := by
  unfold ACallIs
  refine ⟨hf, fun F w vs hF hl hr => ?_⟩
  obtain ⟨x', h1, h2⟩ := h F w _ (hr 0 x rfl)
  refine h2.out F w vs hF hl fun j y hy => ?_
  cases j with
  | zero => simp at hy; subst hy; exact h1
  | succ j => simp at hy
theorem c_Clone0 (A : Option Addr) (c : Nat) : ACallIs B.P 21 [.val (.slice A 0 c)] (.ro 1 0 (fun _ => [])) := by
  refine ACallIs.enter B _ _ Try.func21 rfl rfl Try.ntmps21 Try.results21 rfl fun hreal => ?_
  clear hreal
  repeat (first | refine AWp.seq ?_ | refine AWp.block ?_ | refine AWp.skip ?_)
  refine AWp.region ?_
  intro _
  repeat (first | refine AWp.seq ?_ | refine AWp.block ?_ | refine AWp.skip ?_)
  refine AWp.region ?_
  intro _
  repeat (first | refine AWp.seq ?_ | refine AWp.block ?_ | refine AWp.skip ?_)
  refine AWp.cond (And.intro (fun h => ?_) (fun h => ?_))
  · repeat (first | refine AWp.seq ?_ | refine AWp.block ?_ | refine AWp.skip ?_)
    refine AWp.region ?_
    intro _
    refine AWp.adopt 2 61 5 1 rfl rfl rfl ?_
    refine AWp.freeze 61 (fun _ => []) rfl (fun i hi => absurd hi (Nat.not_lt_zero _)) ?_
    refine AWp.ret ⟨Or.inl rfl, rfl, ?_⟩
    intro _
    rfl
  · repeat (first | refine AWp.seq ?_ | refine AWp.block ?_ | refine AWp.skip ?_)
    refine AWp.region ?_
    refine And.intro rfl (And.intro (by decide) ?_)
    intro _
    refine AWp.freeze 7 (fun _ => []) rfl (fun i hi => absurd hi (Nat.not_lt_zero _)) ?_
    refine AWp.ret ⟨Or.inl rfl, rfl, ?_⟩
    intro _
    rfl
theorem c_CloneB (L : List Int) (hL : L.length ≤ 1000000) : ACallIs B.P 21 [bytesV L] (bytesV L) := by
  cases L with
  | nil =>
    have hfn := c_Clone0 none 0
    unfold ACallIs at hfn
    refine ACallIs.case1 hfn.1 fun F w v hv => ?_
    cases hv with
    | ro _ _ _ _ A c f p1 p2 p3 p4 p5 =>
      refine ⟨_, .val _ _, ?_⟩
      have h := c_Clone0 A c
      unfold ACallIs
      refine ⟨hfn.1, fun F w vs hF hl hr => (h.out F w vs hF hl hr).mono fun e w' ⟨v, F', h1, h2, h3, h4, h5, h6⟩ => ⟨v, F', h1, h2, h3, h4, h5, ?_⟩⟩
      exact rep_row (fun i hi => absurd hi (Nat.not_lt_zero _)) h6
  | cons a L =>
    have hlen : (a :: L).length = L.length + 1 := rfl
    refine ACallIs.enter B _ _ Try.func21 rfl rfl Try.ntmps21 Try.results21 rfl fun hreal => ?_
    clear hreal
    repeat (first | refine AWp.seq ?_ | refine AWp.block ?_ | refine AWp.skip ?_)
    refine AWp.region ?_
    intro _
    repeat (first | refine AWp.seq ?_ | refine AWp.block ?_ | refine AWp.skip ?_)
    refine AWp.region ?_
    refine And.intro (fun _ => by show 0 < L.length + 1; omega) ?_
    intro _
    repeat (first | refine AWp.seq ?_ | refine AWp.block ?_ | refine AWp.skip ?_)
    refine AWp.cond (And.intro (fun h => ?_) (fun h => ?_))
    · cases h
    repeat (first | refine AWp.seq ?_ | refine AWp.block ?_ | refine AWp.skip ?_)
    refine AWp.region ?_
    refine And.intro (fun i hi => rfl) (And.intro rfl (And.intro (by show (0 + (a :: L).length) * 1 ≤ _; omega) ?_))
    intro _
    refine AWp.reread 2 (.sl 7 (a :: L).length) rfl (fun F τ w v h => by rw [Nat.zero_add] at h; exact h) ?_
    refine AWp.freeze 7 (fun i => byC ((a :: L).getD i default)) rfl (fun i hi => by simp) ?_
    refine AWp.ret ⟨Or.inl rfl, rfl, ?_⟩
    intro _
    exact congrArg (fun n => AV.ro 1 n (fun i => byC ((a :: L).getD i default))) (by simp)
end Go.Proofs.Ytnbgpgbbfjaomaa

/- Contract of wire.Decode. Condition: bytes. -/
namespace Go.Proofs.Ytnbgpgbbfjaomaa
open Go Go.Abs Go.RowKit Go.Abs.Gra

@[reducible] def zeroS : AV := .agg [.i64 0, .i64 0, .val (.slice none 0 0), .val (.slice none 0 0), .i64 0, .i64 0, .val (.slice none 0 0)]
theorem c_DecodeLong (D : List Int) (h : 20000 < D.length) : ACallIs B.P 7 [bytesV D] (.tup [zeroS, .i64 1]) := by
  refine ACallIs.enter B _ _ Try.func7 rfl rfl Try.ntmps7 Try.results7 rfl fun hreal => ?_
  clear hreal
  repeat (first | refine AWp.seq ?_ | refine AWp.block ?_ | refine AWp.skip ?_)
  refine AWp.region ?_
  intro _
  repeat (first | refine AWp.seq ?_ | refine AWp.block ?_ | refine AWp.skip ?_)
  refine AWp.region ?_
  intro _
  repeat (first | refine AWp.seq ?_ | refine AWp.block ?_ | refine AWp.skip ?_)
  refine AWp.cond (And.intro (fun h1 => ?_) (fun h1 => ?_))
  · repeat (first | refine AWp.seq ?_ | refine AWp.block ?_ | refine AWp.skip ?_)
    refine AWp.region ?_
    intro _
    refine AWp.ret ⟨Or.inl rfl, rfl, ?_⟩
    intro _
    rfl
  · exfalso
    have := of_decide_eq_false h1
    omega
def rj (D : List Int) : Nat → Rd
  | 0 => ⟨0, false⟩
  | 1 => r1 D
  | _ + 2 => r2 D
def aj (D : List Int) (j : Nat) : Int := if 0 < j then (smF D ⟨0, false⟩).1 else 0
def bj (D : List Int) (j : Nat) : Int := if 1 < j then (smF D (r1 D)).1 else 0
set_option maxHeartbeats 4000000 in
theorem c_Decode {D : List Int} (hB : OkB D) (hl : D.length ≤ 20000) (hok : Scr.ok (scF2 D (insR D)).1) (r : AV)
    (h5 : (scF2 D (insM D)).2.sh = true → r = .tup [zeroS, .i64 5])
    (h4 : (scF2 D (insM D)).2.sh = false → (scF2 D (insM D)).2.p < D.length → r = .tup [zeroS, .i64 4])
    (hE : (scF2 D (insM D)).2.sh = false → ¬ (scF2 D (insM D)).2.p < D.length → scrF (scF2 D (insM D)).1 ≠ 0 → r = .tup [zeroS, .i64 (scrF (scF2 D (insM D)).1)])
    (h0 : (scF2 D (insM D)).2.sh = false → ¬ (scF2 D (insM D)).2.p < D.length → scrF (scF2 D (insM D)).1 = 0 → r = .tup [(scF2 D (insM D)).1.av, .i64 0]) :
    ACallIs B.P 7 [bytesV D] r := by
  have k0 := stk0 D
  have k1 : Stk D (r1 D) := (smF_rdr D).stk _ k0
  have k2 : Stk D (r2 D) := (smF_rdr D).stk _ k1
  have k3 : Stk D (r3 D) := (wdF_rdr D).stk _ k2
  have k4 : Stk D (r4 D) := (wdF_rdr D).stk _ k3
  have k5 : Stk D (r5 D) := (manF_rdr (wdF_rdr D)).stk _ k4
  have k6 : Stk D (r6 D) := (lstF_rdr D).stk _ k5
  have k7 : Stk D (scF2 D (insM D)).2 := (manF_rdr (bkF_rdr (insM_rdr D))).stk _ k6
  refine ACallIs.enter B _ _ Try.func7 rfl rfl Try.ntmps7 Try.results7 rfl fun hreal => ?_
  clear hreal
  repeat (first | refine AWp.seq ?_ | refine AWp.block ?_ | refine AWp.skip ?_)
  refine AWp.region ?_
  intro _
  repeat (first | refine AWp.seq ?_ | refine AWp.block ?_ | refine AWp.skip ?_)
  refine AWp.region ?_
  intro _
  repeat (first | refine AWp.seq ?_ | refine AWp.block ?_ | refine AWp.skip ?_)
  refine AWp.cond (And.intro (fun h1 => ?_) (fun h1 => ?_))
  · exfalso
    have := of_decide_eq_true h1
    omega
  repeat (first | refine AWp.seq ?_ | refine AWp.block ?_ | refine AWp.skip ?_)
  refine AWp.region ?_
  refine CallX.pure (c_CloneB D hB.1) rfl rfl rfl ?_
  intro _
  refine AWp.recells 15 [.ro 1 (D.length - 0) (fun j => byC (D.getD (0 + j) default)), .bool false] rfl rfl (And.intro (fun F w τ v h => rep_row2 (by omega) (fun i hi => ?_) h) (And.intro (fun F w τ v h => h) trivial)) ?_
  · rw [Nat.zero_add]
  repeat (first | refine AWp.seq ?_ | refine AWp.block ?_ | refine AWp.skip ?_)
  refine AWp.region ?_
  intro _
  repeat (first | refine AWp.seq ?_ | refine AWp.block ?_ | refine AWp.skip ?_)
  refine AWp.region ?_
  intro _
  repeat (first | refine AWp.seq ?_ | refine AWp.block ?_ | refine AWp.skip ?_)
  refine AWp.loop (fun j : Nat => ⟨[(2, .obj 2 0), (4, .obj 4 0), (5, .obj 5 0), (16, .i64 j)], [(15, rdC D (rj D j)), (4, ptrC 15), (2, .cells [.i64 0, .i64 0, .val (.slice none 0 0), .val (.slice none 0 0), .i64 0, .i64 0, .val (.slice none 0 0)]), (5, .cells [.i64 (aj D j), .i64 (bj D j), .val (.slice none 0 0), .val (.slice none 0 0), .i64 0, .i64 0, .val (.slice none 0 0)])]⟩) (fun j => j ≤ 2) (fun j => 2 - j) 0 (Nat.zero_le _) ?_ ?_
  · repeat' (first | exact rfl | exact trivial | refine And.intro ?_ ?_)
  intro j hj
  repeat (first | refine AWp.seq ?_ | refine AWp.block ?_ | refine AWp.skip ?_)
  refine AWp.region ?_
  intro _
  repeat (first | refine AWp.seq ?_ | refine AWp.block ?_ | refine AWp.skip ?_)
  refine AWp.cond (And.intro (fun h2 => ?_) (fun h2 => ?_))
  · have hj' : (j : Int) < 2 := of_decide_eq_true h2
    have hj2 : j = 0 ∨ j = 1 := by omega
    rcases hj2 with rfl | rfl
    · repeat (first | refine AWp.seq ?_ | refine AWp.block ?_ | refine AWp.skip ?_)
      refine AWp.region ?_
      intro _
      repeat (first | refine AWp.seq ?_ | refine AWp.block ?_ | refine AWp.skip ?_)
      refine AWp.region ?_
      refine CallX.lend (m_rSmall hB _ k0.1) [(1001, 15)] rfl (And.intro rfl trivial) rfl ?_
      repeat' refine And.intro ?_ ?_
      all_goals first | exact (fun _ => by decide) | skip
      intro _
      repeat (first | refine AWp.seq ?_ | refine AWp.block ?_ | refine AWp.skip ?_)
      refine AWp.region ?_
      intro _
      refine round_end 1 (by decide) ?_ (by decide)
      repeat' (first | exact rfl | exact trivial | refine And.intro ?_ ?_)
    · repeat (first | refine AWp.seq ?_ | refine AWp.block ?_ | refine AWp.skip ?_)
      refine AWp.region ?_
      intro _
      repeat (first | refine AWp.seq ?_ | refine AWp.block ?_ | refine AWp.skip ?_)
      refine AWp.region ?_
      refine CallX.lend (m_rSmall hB _ k1.1) [(1001, 15)] rfl (And.intro rfl trivial) rfl ?_
      repeat' refine And.intro ?_ ?_
      all_goals first | exact (fun _ => by decide) | skip
      intro _
      repeat (first | refine AWp.seq ?_ | refine AWp.block ?_ | refine AWp.skip ?_)
      refine AWp.region ?_
      intro _
      refine round_end 2 (by decide) ?_ (by decide)
      repeat' (first | exact rfl | exact trivial | refine And.intro ?_ ?_)
  have hj3 : ¬ (j : Int) < 2 := of_decide_eq_false h2
  have hj4 : j = 2 := by omega
  subst hj4
  refine AWp.exit ?_
  repeat (first | refine AWp.seq ?_ | refine AWp.block ?_ | refine AWp.skip ?_)
  refine AWp.region ?_
  refine CallX.lend (m_rWide hB _ k2) [(1001, 15)] rfl (And.intro rfl trivial) rfl ?_
  intro _
  repeat (first | refine AWp.seq ?_ | refine AWp.block ?_ | refine AWp.skip ?_)
  refine AWp.region ?_
  refine CallX.lend (m_rWide hB _ k3) [(1001, 15)] rfl (And.intro rfl trivial) rfl ?_
  intro _
  refine AWp.via (newρ 61) ⟨[(2, .obj 2 0), (4, .obj 4 0), (5, .obj 5 0)], [(15, rdC D (r4 D)), (4, ptrC 15), (2, .cells [.i64 0, .i64 0, .val (.slice none 0 0), .val (.slice none 0 0), .i64 0, .i64 0, .val (.slice none 0 0)]), (5, .cells [.i64 (smF D ⟨0, false⟩).1, .i64 (smF D (r1 D)).1, .val (.slice none 0 0), .val (.slice none 0 0), .i64 (wdF D (r2 D)).1, .i64 (wdF D (r3 D)).1, .sl 61 0]), (61, rowL Int 3 1 intC [])]⟩ ?_ ?_
  · refine ⟨?_, ?_, newρ_inj 61 _, newρ_old (by decide) _⟩
    · repeat' (first | exact rfl | exact trivial | refine And.intro ?_ ?_)
    · refine And.intro (And.intro ⟨_, ⟨_, rfl, rfl, trivial⟩, rfl⟩ ?_) (And.intro (And.intro ⟨_, ⟨_, rfl, rfl, trivial⟩, rfl⟩ ?_) (And.intro (And.intro ⟨_, ⟨_, rfl, rfl, trivial⟩, rfl⟩ ?_) (And.intro (And.intro ⟨_, ⟨_, rfl, rfl, trivial⟩, rfl⟩ ?_) (And.intro (And.intro ⟨_, _, _, rfl⟩ ?_) (trivial)))))
      all_goals repeat' (first | exact rfl | exact trivial | refine And.intro ?_ ?_)
  repeat (first | refine AWp.seq ?_ | refine AWp.block ?_ | refine AWp.skip ?_)
  refine AWp.region ?_
  refine CallX.lend (m_eachJnk hB (smF D ⟨0, false⟩).1 (smF D (r1 D)).1 (wdF D (r2 D)).1 (wdF D (r3 D)).1 _ k4) [(1001, 15), (1004, 5), (1005, 4), (1006, 61), (101, 101)] rfl (And.intro rfl (And.intro rfl (And.intro rfl (And.intro rfl trivial)))) rfl ?_
  intro _
  refine AWp.freeze 101 (fun i => intC ((manF D (wdF D) (r4 D)).1.getD i default)) rfl (fun i hi => rfl) ?_
  repeat (first | refine AWp.seq ?_ | refine AWp.block ?_ | refine AWp.skip ?_)
  refine AWp.region ?_
  refine CallX.lend (m_rList hB _ k5) [(1001, 15)] rfl (And.intro rfl trivial) rfl ?_
  intro _
  refine AWp.via (newρ 61) ⟨[(2, .obj 2 0), (4, .obj 4 0), (5, .obj 5 0)], [(15, rdC D (r6 D)), (4, ptrC 15), (2, .cells [.i64 0, .i64 0, .val (.slice none 0 0), .val (.slice none 0 0), .i64 0, .i64 0, .val (.slice none 0 0)]), (5, .cells [.i64 (smF D ⟨0, false⟩).1, .i64 (smF D (r1 D)).1, ints (lstF D (r5 D)).1, .sl 61 0, .i64 (wdF D (r2 D)).1, .i64 (wdF D (r3 D)).1, ints (manF D (wdF D) (r4 D)).1]), (61, rowL Blk 68 3 Blk.cells [])]⟩ ?_ ?_
  · refine ⟨?_, ?_, newρ_inj 61 _, newρ_old (by decide) _⟩
    · repeat' (first | exact rfl | exact trivial | refine And.intro ?_ ?_)
    · refine And.intro (And.intro ⟨_, ⟨_, rfl, rfl, trivial⟩, rfl⟩ ?_) (And.intro (And.intro ⟨_, ⟨_, rfl, rfl, trivial⟩, rfl⟩ ?_) (And.intro (And.intro ⟨_, ⟨_, rfl, rfl, trivial⟩, rfl⟩ ?_) (And.intro (And.intro ⟨_, ⟨_, rfl, rfl, trivial⟩, rfl⟩ ?_) (And.intro (And.intro ⟨_, _, _, rfl⟩ ?_) (trivial)))))
      all_goals repeat' (first | exact rfl | exact trivial | refine And.intro ?_ ?_)
  repeat (first | refine AWp.seq ?_ | refine AWp.block ?_ | refine AWp.skip ?_)
  refine AWp.region ?_
  refine CallX.lend (m_eachBlk hB (smF D ⟨0, false⟩).1 (smF D (r1 D)).1 (wdF D (r2 D)).1 (wdF D (r3 D)).1 (lstF D (r5 D)).1 (manF D (wdF D) (r4 D)).1 _ k6) [(1001, 15), (1004, 5), (1005, 4), (1006, 61), (101, 101)] rfl (And.intro rfl (And.intro rfl (And.intro rfl (And.intro rfl trivial)))) rfl ?_
  intro _
  refine AWp.freeze 101 (fun i => Blk.cells ((manF D (bkF D (insM D)) (r6 D)).1.getD i default)) rfl (fun i hi => rfl) ?_
  repeat (first | refine AWp.seq ?_ | refine AWp.block ?_ | refine AWp.skip ?_)
  refine AWp.region ?_
  intro _
  repeat (first | refine AWp.seq ?_ | refine AWp.block ?_ | refine AWp.skip ?_)
  refine AWp.cond (And.intro (fun h3 => ?_) (fun h3 => ?_))
  · have e := h5 h3
    repeat (first | refine AWp.seq ?_ | refine AWp.block ?_ | refine AWp.skip ?_)
    refine AWp.region ?_
    intro _
    subst e
    refine AWp.ret ⟨Or.inl rfl, rfl, ?_⟩
    intro _
    rfl
  have h3' : (scF2 D (insM D)).2.sh = false := h3
  repeat (first | refine AWp.seq ?_ | refine AWp.block ?_ | refine AWp.skip ?_)
  refine AWp.region ?_
  intro _
  repeat (first | refine AWp.seq ?_ | refine AWp.block ?_ | refine AWp.skip ?_)
  refine AWp.cond (And.intro (fun h6 => ?_) (fun h6 => ?_))
  · have h6' : (((D.length - (scF2 D (insM D)).2.p : Nat) : Int)) > 0 := of_decide_eq_true h6
    have e := h4 h3' (by omega)
    repeat (first | refine AWp.seq ?_ | refine AWp.block ?_ | refine AWp.skip ?_)
    refine AWp.region ?_
    intro _
    subst e
    refine AWp.ret ⟨Or.inl rfl, rfl, ?_⟩
    intro _
    rfl
  have h6' : ¬ (((D.length - (scF2 D (insM D)).2.p : Nat) : Int)) > 0 := of_decide_eq_false h6
  have h6'' : ¬ (scF2 D (insM D)).2.p < D.length := by omega
  have hs := (sc_alike D).2 h3'
  have hok' : Scr.ok (scF2 D (insM D)).1 := by rw [hs]; exact hok
  repeat (first | refine AWp.seq ?_ | refine AWp.block ?_ | refine AWp.skip ?_)
  refine AWp.region ?_
  refine CallX.pure (c_WireCheck (scF2 D (insM D)).1 hok') rfl rfl rfl ?_
  intro _
  repeat (first | refine AWp.seq ?_ | refine AWp.block ?_ | refine AWp.skip ?_)
  refine AWp.region ?_
  intro _
  repeat (first | refine AWp.seq ?_ | refine AWp.block ?_ | refine AWp.skip ?_)
  refine AWp.cond (And.intro (fun h7 => ?_) (fun h7 => ?_))
  · have h7' : (scrF (scF2 D (insM D)).1 != 0) = true := h7
    have e := hE h3' h6'' (by simpa using h7')
    repeat (first | refine AWp.seq ?_ | refine AWp.block ?_ | refine AWp.skip ?_)
    refine AWp.region ?_
    intro _
    subst e
    refine AWp.ret ⟨Or.inl rfl, rfl, ?_⟩
    intro _
    rfl
  have h7' : (scrF (scF2 D (insM D)).1 != 0) = false := h7
  have e := h0 h3' h6'' (by simpa using h7')
  repeat (first | refine AWp.seq ?_ | refine AWp.block ?_ | refine AWp.skip ?_)
  refine AWp.region ?_
  intro _
  subst e
  refine AWp.ret ⟨Or.inl rfl, rfl, ?_⟩
  intro _
  rfl
end Go.Proofs.Ytnbgpgbbfjaomaa

/- Contracts of the document's head on bytes: one, four, some, step. Condition: bytes. -/
namespace Go.Proofs.Ytnbgpgbbfjaomaa
open Go Go.Abs Go.RowKit Go.Abs.Gra

@[reducible] def hdC (D : List Int) (s : Rd) : HO := .cells [bytesV D, .i64 s.p, .bool s.sh]
set_option maxHeartbeats 1000000 in
theorem m_one {D : List Int} (hB : OkB D) (s : Rd) (hs : s.p ≤ D.length) :
    ACallM B.P 30 ⟨[.obj 1001 0], [(1001, hdC D s)], .i64 (smF D s).1, [(1001, hdC D (smF D s).2)]⟩ := by
  have hBl := hB.1
  by_cases hp : s.p < D.length
  · have e : smF D s = (D.getD s.p default, ⟨s.p + 1, s.sh⟩) := by unfold smF; rw [if_pos hp]
    have hv := hB.2 s.p hp
    have hw : IntKind.i64.wrap (((s.p + 1 : Nat) : Int) - 1) = (s.p : Int) := by rw [wrap_in (by omega) (by omega)]; omega
    rw [e]
    refine ACallM.enter B _ _ Try.func30 rfl rfl Try.ntmps30 Try.results30 rfl ?_ fun hreal => ?_
    · repeat' (first | exact rfl | exact trivial | refine And.intro ?_ ?_)
    clear hreal
    repeat (first | refine AWp.seq ?_ | refine AWp.block ?_ | refine AWp.skip ?_)
    refine AWp.region ?_
    intro _
    repeat (first | refine AWp.seq ?_ | refine AWp.block ?_ | refine AWp.skip ?_)
    refine AWp.draw mixed (by kernel_rfl) ?_
    intro _
    repeat (first | refine AWp.seq ?_ | refine AWp.block ?_ | refine AWp.skip ?_)
    refine AWp.cond (And.intro (fun h1 => ?_) (fun h1 => ?_))
    · exfalso
      have := of_decide_eq_true h1
      omega
    repeat (first | refine AWp.seq ?_ | refine AWp.block ?_ | refine AWp.skip ?_)
    refine AWp.region ?_
    intro _
    refine AWp.recells 1001 [bytesV D, .i64 ((s.p + 1 : Nat) : Int), .bool s.sh] rfl rfl (reps_eq (congrArg (fun z => [bytesV D, AV.i64 z, AV.bool s.sh]) (show IntKind.i64.wrap ((s.p : Int) + 1) = ((s.p + 1 : Nat) : Int) from by rw [wrap_in (by omega) (by omega)]; omega))) ?_
    repeat (first | refine AWp.seq ?_ | refine AWp.block ?_ | refine AWp.skip ?_)
    refine AWp.draw mixed (by kernel_rfl) ?_
    refine And.intro (fun _ => by show 0 ≤ IntKind.i64.wrap (((s.p + 1 : Nat) : Int) - 1) ∧ IntKind.i64.wrap (((s.p + 1 : Nat) : Int) - 1) < (D.length : Int); rw [hw]; omega) ?_
    intro _
    refine AWp.ret ⟨Or.inl rfl, ?_⟩
    intro _
    refine And.intro (congrArg AV.i64 (show IntKind.i64.wrap (D.getD (IntKind.i64.wrap (((s.p + 1 : Nat) : Int) - 1)).toNat default) = D.getD s.p default from by rw [hw, Int.toNat_natCast]; exact wrap_in (by omega) (by omega))) (And.intro trivial (And.intro rfl (And.intro ?_ trivial)))
    all_goals repeat' (first | exact rfl | exact trivial | refine And.intro ?_ ?_)
  · have e : smF D s = (0, ⟨s.p, true⟩) := by unfold smF; rw [if_neg hp]
    rw [e]
    refine ACallM.enter B _ _ Try.func30 rfl rfl Try.ntmps30 Try.results30 rfl ?_ fun hreal => ?_
    · repeat' (first | exact rfl | exact trivial | refine And.intro ?_ ?_)
    clear hreal
    repeat (first | refine AWp.seq ?_ | refine AWp.block ?_ | refine AWp.skip ?_)
    refine AWp.region ?_
    intro _
    repeat (first | refine AWp.seq ?_ | refine AWp.block ?_ | refine AWp.skip ?_)
    refine AWp.draw mixed (by kernel_rfl) ?_
    intro _
    repeat (first | refine AWp.seq ?_ | refine AWp.block ?_ | refine AWp.skip ?_)
    refine AWp.cond (And.intro (fun h1 => ?_) (fun h1 => ?_))
    · repeat (first | refine AWp.seq ?_ | refine AWp.block ?_ | refine AWp.skip ?_)
      refine AWp.region ?_
      intro _
      repeat (first | refine AWp.seq ?_ | refine AWp.block ?_ | refine AWp.skip ?_)
      refine AWp.region ?_
      intro _
      refine AWp.ret ⟨Or.inl rfl, ?_⟩
      intro _
      refine And.intro rfl (And.intro trivial (And.intro rfl (And.intro ?_ trivial)))
      all_goals repeat' (first | exact rfl | exact trivial | refine And.intro ?_ ?_)
    · exfalso
      have := of_decide_eq_false h1
      omega
set_option maxHeartbeats 1000000 in
theorem m_four {D : List Int} (hB : OkB D) (s : Rd) (hs : Stk D s) :
    ACallM B.P 31 ⟨[.obj 1001 0], [(1001, hdC D s)], .i64 (wdF D s).1, [(1001, hdC D (wdF D s).2)]⟩ := by
  refine ACallM.enter B _ _ Try.func31 rfl rfl Try.ntmps31 Try.results31 rfl ?_ fun hreal => ?_
  · repeat' (first | exact rfl | exact trivial | refine And.intro ?_ ?_)
  clear hreal
  repeat (first | refine AWp.seq ?_ | refine AWp.block ?_ | refine AWp.skip ?_)
  refine AWp.region ?_
  intro _
  repeat (first | refine AWp.seq ?_ | refine AWp.block ?_ | refine AWp.skip ?_)
  refine AWp.region ?_
  intro _
  repeat (first | refine AWp.seq ?_ | refine AWp.block ?_ | refine AWp.skip ?_)
  refine AWp.region ?_
  intro _
  repeat (first | refine AWp.seq ?_ | refine AWp.block ?_ | refine AWp.skip ?_)
  refine AWp.loop (fun q : (Nat × Int) × Rd => ⟨[(0, .obj 1001 0), (3, .i64 q.1.2), (4, .i64 ((4 : Int) - q.1.1))], [(1001, hdC D q.2)]⟩) (fun q => Stk D q.2 ∧ 0 ≤ q.1.2 ∧ (q.1.1 = 4 ∧ q.1.2 = 0 ∨ q.1.1 = 3 ∧ q.1.2 < 256 ∨ q.1.1 = 2 ∧ q.1.2 < 65536 ∨ q.1.1 = 1 ∧ q.1.2 < 16777216 ∨ q.1.1 = 0) ∧ widF D q.1.1 q.1.2 q.2 = wdF D s) (fun q => q.1.1) ((4, 0), s) ⟨hs, Int.le_refl _, Or.inl ⟨rfl, rfl⟩, rfl⟩ ?_ ?_
  · repeat' (first | exact rfl | exact trivial | refine And.intro ?_ ?_)
  rintro ⟨⟨k, n⟩, t⟩ ⟨ht, hn0, hn, hR⟩
  simp only at ht hn0 hn hR
  have hb := smF_rng hB t
  repeat (first | refine AWp.seq ?_ | refine AWp.block ?_ | refine AWp.skip ?_)
  refine AWp.region ?_
  intro _
  repeat (first | refine AWp.seq ?_ | refine AWp.block ?_ | refine AWp.skip ?_)
  refine AWp.cond (And.intro (fun h1 => ?_) (fun h1 => ?_))
  · have h1' : (4 : Int) - (k : Int) < 4 := of_decide_eq_true h1
    obtain ⟨k, rfl⟩ : ∃ q, k = q + 1 := ⟨k - 1, by omega⟩
    have hor : IntKind.i64.wrap (IntKind.i64.wrap (256 * n) + (smF D t).1) = 256 * n + (smF D t).1 := by rw [wrap_in (n := 256 * n) (by omega) (by omega), wrap_in (by omega) (by omega)]
    have hw : IntKind.i64.wrap ((4 : Int) - ((k + 1 : Nat) : Int) + 1) = (4 : Int) - (k : Int) := by rw [wrap_in (by omega) (by omega)]; omega
    repeat (first | refine AWp.seq ?_ | refine AWp.block ?_ | refine AWp.skip ?_)
    refine AWp.region ?_
    refine CallX.lend (m_one hB t ht.1) [(1001, 1001)] rfl (And.intro rfl trivial) rfl ?_
    intro _
    repeat (first | refine AWp.seq ?_ | refine AWp.block ?_ | refine AWp.skip ?_)
    refine AWp.region ?_
    intro _
    refine round_end ((k, 256 * n + (smF D t).1), (smF D t).2) ⟨(smF_rdr D).stk t ht, by show 0 ≤ 256 * n + (smF D t).1; omega, by show k = 4 ∧ 256 * n + (smF D t).1 = 0 ∨ k = 3 ∧ 256 * n + (smF D t).1 < 256 ∨ k = 2 ∧ 256 * n + (smF D t).1 < 65536 ∨ k = 1 ∧ 256 * n + (smF D t).1 < 16777216 ∨ k = 0; omega, hR⟩ ?_ (by show k < k + 1; omega)
    refine And.intro ?_ (And.intro rfl (And.intro ?_ trivial))
    all_goals repeat' (first | exact rfl | exact trivial | exact congrArg (fun z => some (AV.i64 z)) hor | exact congrArg (fun z => some (AV.i64 z)) hw | refine And.intro ?_ ?_)
  · have h1' : ¬ (4 : Int) - (k : Int) < 4 := of_decide_eq_false h1
    obtain rfl : k = 0 := by omega
    have hR : (n, t) = wdF D s := hR
    refine AWp.exit ?_
    repeat (first | refine AWp.seq ?_ | refine AWp.block ?_ | refine AWp.skip ?_)
    refine AWp.region ?_
    intro _
    refine AWp.ret ⟨Or.inl rfl, ?_⟩
    intro _
    rw [← hR]
    refine And.intro rfl (And.intro trivial (And.intro rfl (And.intro ?_ trivial)))
    all_goals repeat' (first | exact rfl | exact trivial | refine And.intro ?_ ?_)
theorem opd_cells2 {D : List Int} (hB : OkB D) (s : Rd) : [AV.i64 ((smF D s).1.tmod 4), AV.i64 (smF D (smF D s).2).1, AV.bool ((IntKind.i64.wrap ((smF D s).1.tdiv 4)).tmod 2 == 1), AV.i64 (IntKind.i64.wrap ((smF D s).1.tdiv 8)), AV.i64 (smF D (smF D (smF D s).2).2).1] = Opd.cells (opF D s).1 := by
  have h := smF_rng hB s
  rw [Int.tmod_eq_emod_of_nonneg h.1, Int.tdiv_eq_ediv_of_nonneg h.1, Int.tdiv_eq_ediv_of_nonneg h.1, wrap_in (by omega) (by omega), wrap_in (by omega) (by omega), Int.tmod_eq_emod_of_nonneg (by omega)]
  rfl
theorem rg_cells2 {D : List Int} (hB : OkB D) (s : Rd) : [AV.i64 (IntKind.i64.wrap ((smF D s).1.tdiv 16)), AV.i64 ((smF D s).1.tmod 16)] = Rg.cells (rgF D s).1 := by
  have h := smF_rng hB s
  rw [Int.tmod_eq_emod_of_nonneg h.1, Int.tdiv_eq_ediv_of_nonneg h.1, wrap_in (by omega) (by omega)]
  rfl
set_option maxHeartbeats 2000000 in
theorem m_some {D : List Int} (hB : OkB D) (s : Rd) (hs : Stk D s) :
    ACallM B.P 32 ⟨[.obj 1001 0], [(1001, hdC D s)], ints (lstF D s).1, [(1001, hdC D (lstF D s).2)]⟩ := by
  have s1 := (smF_rdr D).stk s hs
  have b1 := smF_rng hB s
  refine ACallM.enter B _ _ Try.func32 rfl rfl Try.ntmps32 Try.results32 rfl ?_ fun hreal => ?_
  · repeat' (first | exact rfl | exact trivial | refine And.intro ?_ ?_)
  clear hreal
  repeat (first | refine AWp.seq ?_ | refine AWp.block ?_ | refine AWp.skip ?_)
  refine AWp.region ?_
  intro _
  repeat (first | refine AWp.seq ?_ | refine AWp.block ?_ | refine AWp.skip ?_)
  refine AWp.region ?_
  refine CallX.lend (m_one hB s hs.1) [(1001, 1001)] rfl (And.intro rfl trivial) rfl ?_
  intro _
  repeat (first | refine AWp.seq ?_ | refine AWp.block ?_ | refine AWp.skip ?_)
  refine AWp.region ?_
  intro _
  refine AWp.adopt 4 61 3 1 rfl rfl rfl ?_
  repeat (first | refine AWp.seq ?_ | refine AWp.block ?_ | refine AWp.skip ?_)
  refine AWp.region ?_
  intro _
  repeat (first | refine AWp.seq ?_ | refine AWp.block ?_ | refine AWp.skip ?_)
  refine AWp.loop (fun q : (Nat × Rd) × List Int => ⟨[(0, .obj 1001 0), (4, .sl ⟨61, []⟩ q.2.length), (3, .i64 (smF D s).1), (5, .i64 ((smF D s).1 - q.1.1))], [(1001, hdC D q.1.2), (61, rowL Int 3 1 intC q.2)]⟩) (fun q => Stk D q.1.2 ∧ q.2.length + q.1.1 ≤ 255 ∧ q.1.1 ≤ (smF D s).1.toNat ∧ q.2 ++ (eachF (smF D) q.1.1 q.1.2).1 = (eachF (smF D) (smF D s).1.toNat ((smF D s).2)).1 ∧ (eachF (smF D) q.1.1 q.1.2).2 = (eachF (smF D) (smF D s).1.toNat ((smF D s).2)).2) (fun q => q.1.1) (((smF D s).1.toNat, (smF D s).2), []) ⟨s1, by show 0 + (smF D s).1.toNat ≤ 255; omega, Nat.le_refl _, rfl, rfl⟩ ?_ ?_
  · refine And.intro ?_ (And.intro rfl (And.intro ?_ (And.intro ⟨_, _, rfl, rfl, fun i hi => by first | rfl | exact absurd hi (Nat.not_lt_zero _)⟩ (And.intro trivial (trivial)))))
    all_goals repeat' (first | exact rfl | exact trivial | exact congrArg (fun z => some (AV.i64 z)) (show (0 : Int) = (smF D s).1 - (((smF D s).1.toNat : Nat) : Int) from by omega) | refine And.intro ?_ ?_)
  rintro ⟨⟨k, t⟩, A⟩ ⟨ht, hAl, hkn, hA, hT⟩
  simp only at ht hAl hkn hA hT
  repeat (first | refine AWp.seq ?_ | refine AWp.block ?_ | refine AWp.skip ?_)
  refine AWp.region ?_
  repeat' refine And.intro ?_ ?_
  all_goals first | exact fun h => h | exact gT | exact gF | exact gN | skip
  intro _
  repeat (first | refine AWp.seq ?_ | refine AWp.block ?_ | refine AWp.skip ?_)
  refine AWp.cond (And.intro (fun h1 => ?_) (fun h1 => ?_))
  · have h1 : (bif decide ((smF D s).1 - (k : Int) < (smF D s).1) then !t.sh else false) = true := h1
    have hk : 0 < k := by
      rcases Nat.eq_zero_or_pos k with e | e
      · rw [decide_eq_false (show ¬ ((smF D s).1 - (k : Int) < (smF D s).1) from by omega)] at h1; cases h1
      · exact e
    have hsh : t.sh = false := by
      rw [decide_eq_true (show (smF D s).1 - (k : Int) < (smF D s).1 from by omega)] at h1
      simpa using h1
    obtain ⟨k, rfl⟩ : ∃ q, k = q + 1 := ⟨k - 1, by omega⟩
    rw [eachF_go hsh] at hA hT
    have hAl2 : (A ++ [((smF D) t).1]).length = A.length + 1 := List.length_append
    have hw : IntKind.i64.wrap ((smF D s).1 - ((k + 1 : Nat) : Int) + 1) = (smF D s).1 - (k : Int) := by rw [wrap_in (by omega) (by omega)]; omega
    repeat (first | refine AWp.seq ?_ | refine AWp.block ?_ | refine AWp.skip ?_)
    refine AWp.region ?_
    refine CallX.lend (m_one hB t ht.1) [(1001, 1001)] rfl (And.intro rfl trivial) rfl ?_
    intro _
    repeat (first | refine AWp.seq ?_ | refine AWp.block ?_ | refine AWp.skip ?_)
    refine AWp.region ?_
    refine And.intro (Nat.le_refl _) (And.intro (fun i hi => by have e : i = 0 := (by omega); subst e; rfl) (And.intro rfl (And.intro (by show (A.length + 1) * _ ≤ _; omega) ?_)))
    intro _
    refine AWp.rename 26 61 rfl rfl ?_
    refine AWp.weaken (s' := ⟨[(0, .obj 1001 0), (4, .sl ⟨61, []⟩ (A ++ [((smF D) t).1]).length), (3, .i64 (smF D s).1), (5, .i64 ((smF D s).1 - ((k + 1 : Nat) : Int)))], [(1001, hdC D ((smF D) t).2), (61, rowL Int 3 1 intC (A ++ [((smF D) t).1]))]⟩) ?_ ?_
    · refine And.intro ?_ (And.intro rfl (And.intro ?_ (And.intro ⟨_, _, rfl, hAl2.symm, fun i hi => by rw [hAl2] at hi; exact (appL_row (enc := intC) hi)⟩ (And.intro trivial (trivial)))))
      all_goals repeat' (first | exact rfl | exact trivial | exact congrArg (fun n => some (AV.sl ⟨61, []⟩ n)) hAl2.symm | refine And.intro ?_ ?_)
    repeat (first | refine AWp.seq ?_ | refine AWp.block ?_ | refine AWp.skip ?_)
    refine AWp.region ?_
    intro _
    refine round_end ((k, ((smF D) t).2), (A ++ [((smF D) t).1])) ⟨(smF_rdr D).stk t ht, by show (A ++ [((smF D) t).1]).length + k ≤ 255; rw [hAl2]; omega, by show k ≤ (smF D s).1.toNat; omega, by rw [← hA]; exact List.append_assoc .., hT⟩ ?_ (by show k < k + 1; omega)
    refine And.intro ?_ (And.intro rfl (And.intro ?_ (And.intro ⟨_, _, rfl, rfl, fun i hi => rfl⟩ (And.intro trivial (trivial)))))
    all_goals repeat' (first | exact rfl | exact trivial | exact congrArg (fun z => some (AV.i64 z)) hw | refine And.intro ?_ ?_)
  have h1 : (bif decide ((smF D s).1 - (k : Int) < (smF D s).1) then !t.sh else false) = false := h1
  have hfin : eachF (smF D) k t = ([], t) := by
    rcases Nat.eq_zero_or_pos k with e | e
    · subst e; rfl
    · rw [decide_eq_true (show (smF D s).1 - (k : Int) < (smF D s).1 from by omega)] at h1
      exact eachF_stop (by simpa using h1)
  rw [hfin] at hA hT
  have hA : A = (eachF (smF D) (smF D s).1.toNat ((smF D s).2)).1 := (List.append_nil A).symm.trans hA
  have hT : t = (eachF (smF D) (smF D s).1.toNat ((smF D s).2)).2 := hT
  subst hA hT
  refine AWp.exit ?_
  refine AWp.freeze 61 (fun i => intC ((lstF D s).1.getD i default)) rfl (fun i hi => rfl) ?_
  repeat (first | refine AWp.seq ?_ | refine AWp.block ?_ | refine AWp.skip ?_)
  refine AWp.region ?_
  intro _
  refine AWp.ret ⟨Or.inl rfl, ?_⟩
  intro _
  refine And.intro rfl (And.intro trivial (And.intro rfl (And.intro ?_ trivial)))
  all_goals repeat' (first | exact rfl | exact trivial | refine And.intro ?_ ?_)
set_option maxHeartbeats 4000000 in
theorem m_step2 {D : List Int} (hB : OkB D) (s : Rd) (hs : Stk D s) :
    ACallM B.P 33 ⟨[.obj 1001 0], [(1001, hdC D s)], (insR D s).1.av, [(1001, hdC D (insR D s).2)]⟩ := by
  have s1 := (smF_rdr D).stk s hs
  have s2 := (smF_rdr D).stk _ s1
  have s3 := (smF_rdr D).stk _ s2
  have b1 := smF_rng hB (smF D s).2
  have b2 := smF_rng hB (smF D (smF D s).2).2
  refine ACallM.enter B _ _ Try.func33 rfl rfl Try.ntmps33 Try.results33 rfl ?_ fun hreal => ?_
  · repeat' (first | exact rfl | exact trivial | refine And.intro ?_ ?_)
  clear hreal
  repeat (first | refine AWp.seq ?_ | refine AWp.block ?_ | refine AWp.skip ?_)
  refine AWp.region ?_
  intro _
  repeat (first | refine AWp.seq ?_ | refine AWp.block ?_ | refine AWp.skip ?_)
  refine AWp.region ?_
  intro _
  repeat (first | refine AWp.seq ?_ | refine AWp.block ?_ | refine AWp.skip ?_)
  refine AWp.region ?_
  refine CallX.lend (m_one hB s hs.1) [(1001, 1001)] rfl (And.intro rfl trivial) rfl ?_
  intro _
  repeat (first | refine AWp.seq ?_ | refine AWp.block ?_ | refine AWp.skip ?_)
  refine AWp.region ?_
  refine CallX.lend (m_one hB _ s1.1) [(1001, 1001)] rfl (And.intro rfl trivial) rfl ?_
  intro _
  repeat (first | refine AWp.seq ?_ | refine AWp.block ?_ | refine AWp.skip ?_)
  refine AWp.region ?_
  refine CallX.lend (m_one hB _ s2.1) [(1001, 1001)] rfl (And.intro rfl trivial) rfl ?_
  intro _
  refine AWp.via (newρ 61) ⟨[(0, .obj 1001 0), (2, .obj 2 0), (3, .obj 3 0), (4, .i64 (smF D (smF D s).2).1), (5, .i64 (smF D (smF D (smF D s).2).2).1)], [(1001, hdC D (smF D (smF D (smF D s).2).2).2), (2, .cells [.i64 0, .val (.slice none 0 0), .val (.slice none 0 0)]), (3, .cells [.i64 (smF D s).1, .sl 61 0, .val (.slice none 0 0)]), (61, rowL Opd 125 5 Opd.cells [])]⟩ ?_ ?_
  · refine ⟨?_, ?_, newρ_inj 61 _, newρ_old (by decide) _⟩
    · repeat' (first | exact rfl | exact trivial | refine And.intro ?_ ?_)
    · refine And.intro (And.intro ⟨_, ⟨_, rfl, rfl, trivial⟩, rfl⟩ ?_) (And.intro (And.intro ⟨_, ⟨_, rfl, rfl, trivial⟩, rfl⟩ ?_) (And.intro (And.intro ⟨_, ⟨_, rfl, rfl, trivial⟩, rfl⟩ ?_) (And.intro (And.intro ⟨_, _, _, rfl⟩ ?_) (trivial))))
      all_goals repeat' (first | exact rfl | exact trivial | refine And.intro ?_ ?_)
  refine AWp.via (newρ 62) ⟨[(0, .obj 1001 0), (2, .obj 2 0), (3, .obj 3 0), (4, .i64 (smF D (smF D s).2).1), (5, .i64 (smF D (smF D (smF D s).2).2).1)], [(1001, hdC D (smF D (smF D (smF D s).2).2).2), (2, .cells [.i64 0, .val (.slice none 0 0), .val (.slice none 0 0)]), (3, .cells [.i64 (smF D s).1, .sl 61 0, .sl 62 0]), (61, rowL Opd 125 5 Opd.cells []), (62, rowL Rg 127 2 Rg.cells [])]⟩ ?_ ?_
  · refine ⟨?_, ?_, newρ_inj 62 _, newρ_old (by decide) _⟩
    · repeat' (first | exact rfl | exact trivial | refine And.intro ?_ ?_)
    · refine And.intro (And.intro ⟨_, ⟨_, rfl, rfl, trivial⟩, rfl⟩ ?_) (And.intro (And.intro ⟨_, ⟨_, rfl, rfl, trivial⟩, rfl⟩ ?_) (And.intro (And.intro ⟨_, ⟨_, rfl, rfl, trivial⟩, rfl⟩ ?_) (And.intro (And.intro ⟨_, ⟨_, rfl, rfl, trivial⟩, Or.inl ⟨_, rfl, fun i hi => rfl⟩⟩ ?_) (And.intro (And.intro ⟨_, _, _, rfl⟩ ?_) (trivial)))))
      all_goals repeat' (first | exact rfl | exact trivial | refine And.intro ?_ ?_)
  repeat (first | refine AWp.seq ?_ | refine AWp.block ?_ | refine AWp.skip ?_)
  refine AWp.region ?_
  intro _
  repeat (first | refine AWp.seq ?_ | refine AWp.block ?_ | refine AWp.skip ?_)
  refine AWp.loop (fun q : (Nat × Rd) × List Opd => ⟨[(0, .obj 1001 0), (2, .obj 2 0), (3, .obj 3 0), (5, .i64 (smF D (smF D (smF D s).2).2).1), (4, .i64 (smF D (smF D s).2).1), (6, .i64 ((smF D (smF D s).2).1 - q.1.1))], [(1001, hdC D q.1.2), (2, .cells [.i64 0, .val (.slice none 0 0), .val (.slice none 0 0)]), (3, .cells [.i64 (smF D s).1, .sl ⟨61, []⟩ q.2.length, .sl ⟨62, []⟩ 0]), (61, rowL Opd 125 5 Opd.cells q.2), (62, rowL Rg 127 2 Rg.cells [])]⟩) (fun q => Stk D q.1.2 ∧ q.2.length + q.1.1 ≤ 255 ∧ q.1.1 ≤ (smF D (smF D s).2).1.toNat ∧ q.2 ++ (eachF (opF D) q.1.1 q.1.2).1 = (eachF (opF D) (smF D (smF D s).2).1.toNat ((smF D (smF D (smF D s).2).2).2)).1 ∧ (eachF (opF D) q.1.1 q.1.2).2 = (eachF (opF D) (smF D (smF D s).2).1.toNat ((smF D (smF D (smF D s).2).2).2)).2) (fun q => q.1.1) (((smF D (smF D s).2).1.toNat, (smF D (smF D (smF D s).2).2).2), []) ⟨s3, by show 0 + (smF D (smF D s).2).1.toNat ≤ 255; omega, Nat.le_refl _, rfl, rfl⟩ ?_ ?_
  · refine And.intro ?_ (And.intro rfl (And.intro ?_ (And.intro rfl (And.intro ?_ (And.intro rfl (And.intro ?_ (And.intro ⟨_, _, rfl, rfl, fun i hi => by first | rfl | exact absurd hi (Nat.not_lt_zero _)⟩ (And.intro trivial (And.intro ⟨_, _, rfl, rfl, fun i hi => by first | rfl | exact absurd hi (Nat.not_lt_zero _)⟩ (And.intro trivial (trivial)))))))))))
    all_goals repeat' (first | exact rfl | exact trivial | exact congrArg (fun z => some (AV.i64 z)) (show (0 : Int) = (smF D (smF D s).2).1 - (((smF D (smF D s).2).1.toNat : Nat) : Int) from by omega) | refine And.intro ?_ ?_)
  rintro ⟨⟨k, t⟩, A⟩ ⟨ht, hAl, hkn, hA, hT⟩
  simp only at ht hAl hkn hA hT
  repeat (first | refine AWp.seq ?_ | refine AWp.block ?_ | refine AWp.skip ?_)
  refine AWp.region ?_
  repeat' refine And.intro ?_ ?_
  all_goals first | exact fun h => h | exact gT | exact gF | exact gN | skip
  intro _
  repeat (first | refine AWp.seq ?_ | refine AWp.block ?_ | refine AWp.skip ?_)
  refine AWp.cond (And.intro (fun h1 => ?_) (fun h1 => ?_))
  · have h1 : (bif decide ((smF D (smF D s).2).1 - (k : Int) < (smF D (smF D s).2).1) then !t.sh else false) = true := h1
    have hk : 0 < k := by
      rcases Nat.eq_zero_or_pos k with e | e
      · rw [decide_eq_false (show ¬ ((smF D (smF D s).2).1 - (k : Int) < (smF D (smF D s).2).1) from by omega)] at h1; cases h1
      · exact e
    have hsh : t.sh = false := by
      rw [decide_eq_true (show (smF D (smF D s).2).1 - (k : Int) < (smF D (smF D s).2).1 from by omega)] at h1
      simpa using h1
    obtain ⟨k, rfl⟩ : ∃ q, k = q + 1 := ⟨k - 1, by omega⟩
    rw [eachF_go hsh] at hA hT
    have hAl2 : (A ++ [((opF D) t).1]).length = A.length + 1 := List.length_append
    have hw : IntKind.i64.wrap ((smF D (smF D s).2).1 - ((k + 1 : Nat) : Int) + 1) = (smF D (smF D s).2).1 - (k : Int) := by rw [wrap_in (by omega) (by omega)]; omega
    have t1 := (smF_rdr D).stk t ht
    have t2 := (smF_rdr D).stk _ t1
    repeat (first | refine AWp.seq ?_ | refine AWp.block ?_ | refine AWp.skip ?_)
    refine AWp.region ?_
    refine CallX.lend (m_one hB t ht.1) [(1001, 1001)] rfl (And.intro rfl trivial) rfl ?_
    intro _
    repeat (first | refine AWp.seq ?_ | refine AWp.block ?_ | refine AWp.skip ?_)
    refine AWp.region ?_
    repeat' refine And.intro ?_ ?_
    all_goals first | exact (fun _ => by decide) | decide | skip
    intro _
    repeat (first | refine AWp.seq ?_ | refine AWp.block ?_ | refine AWp.skip ?_)
    refine AWp.region ?_
    refine CallX.lend (m_one hB _ t1.1) [(1001, 1001)] rfl (And.intro rfl trivial) rfl ?_
    intro _
    repeat (first | refine AWp.seq ?_ | refine AWp.block ?_ | refine AWp.skip ?_)
    refine AWp.region ?_
    refine CallX.lend (m_one hB _ t2.1) [(1001, 1001)] rfl (And.intro rfl trivial) rfl ?_
    intro _
    refine AWp.recells 8 (Opd.cells (opF D t).1) rfl rfl (reps_eq (opd_cells2 hB t)) ?_
    refine AWp.freezeObj 8 rfl rfl ?_
    repeat (first | refine AWp.seq ?_ | refine AWp.block ?_ | refine AWp.skip ?_)
    refine AWp.region ?_
    refine And.intro (Nat.le_refl _) (And.intro (fun i hi => by have e : i = 0 := (by omega); subst e; rfl) (And.intro rfl (And.intro (by show (A.length + 1) * _ ≤ _; omega) ?_)))
    intro _
    refine AWp.rename 52 61 rfl rfl ?_
    refine AWp.weaken (s' := ⟨[(0, .obj 1001 0), (2, .obj 2 0), (3, .obj 3 0), (5, .i64 (smF D (smF D (smF D s).2).2).1), (4, .i64 (smF D (smF D s).2).1), (6, .i64 ((smF D (smF D s).2).1 - ((k + 1 : Nat) : Int)))], [(1001, hdC D ((opF D) t).2), (2, .cells [.i64 0, .val (.slice none 0 0), .val (.slice none 0 0)]), (3, .cells [.i64 (smF D s).1, .sl ⟨61, []⟩ (A ++ [((opF D) t).1]).length, .sl ⟨62, []⟩ 0]), (61, rowL Opd 125 5 Opd.cells (A ++ [((opF D) t).1])), (62, rowL Rg 127 2 Rg.cells [])]⟩) ?_ ?_
    · refine And.intro ?_ (And.intro rfl (And.intro ?_ (And.intro rfl (And.intro ?_ (And.intro (congrArg (fun q : Nat => some (HO.cells [.i64 (smF D s).1, .sl ⟨61, []⟩ q, .sl ⟨62, []⟩ 0])) hAl2.symm) (And.intro ?_ (And.intro ⟨_, _, rfl, hAl2.symm, fun i hi => by rw [hAl2] at hi; exact (appL_row (enc := Opd.cells) hi)⟩ (And.intro trivial (And.intro ⟨_, _, rfl, rfl, fun i hi => rfl⟩ (And.intro trivial (trivial)))))))))))
      all_goals repeat' (first | exact rfl | exact trivial | exact congrArg (fun n => some (AV.sl ⟨61, []⟩ n)) hAl2.symm | refine And.intro ?_ ?_)
    repeat (first | refine AWp.seq ?_ | refine AWp.block ?_ | refine AWp.skip ?_)
    refine AWp.region ?_
    intro _
    refine round_end ((k, ((opF D) t).2), (A ++ [((opF D) t).1])) ⟨(opF_rdr D).stk t ht, by show (A ++ [((opF D) t).1]).length + k ≤ 255; rw [hAl2]; omega, by show k ≤ (smF D (smF D s).2).1.toNat; omega, by rw [← hA]; exact List.append_assoc .., hT⟩ ?_ (by show k < k + 1; omega)
    refine And.intro ?_ (And.intro rfl (And.intro ?_ (And.intro rfl (And.intro ?_ (And.intro rfl (And.intro ?_ (And.intro ⟨_, _, rfl, rfl, fun i hi => rfl⟩ (And.intro trivial (And.intro ⟨_, _, rfl, rfl, fun i hi => rfl⟩ (And.intro trivial (trivial)))))))))))
    all_goals repeat' (first | exact rfl | exact trivial | exact congrArg (fun z => some (AV.i64 z)) hw | refine And.intro ?_ ?_)
  have h1 : (bif decide ((smF D (smF D s).2).1 - (k : Int) < (smF D (smF D s).2).1) then !t.sh else false) = false := h1
  have hfin : eachF (opF D) k t = ([], t) := by
    rcases Nat.eq_zero_or_pos k with e | e
    · subst e; rfl
    · rw [decide_eq_true (show (smF D (smF D s).2).1 - (k : Int) < (smF D (smF D s).2).1 from by omega)] at h1
      exact eachF_stop (by simpa using h1)
  rw [hfin] at hA hT
  have hA : A = (eachF (opF D) (smF D (smF D s).2).1.toNat ((smF D (smF D (smF D s).2).2).2)).1 := (List.append_nil A).symm.trans hA
  have hT : t = (eachF (opF D) (smF D (smF D s).2).1.toNat ((smF D (smF D (smF D s).2).2).2)).2 := hT
  subst hA hT
  refine AWp.exit ?_
  have u3 := (eachF_rdr (opF_rdr D) (smF D (smF D s).2).1.toNat).stk _ s3
  refine AWp.freeze 61 (fun i => Opd.cells ((eachF (opF D) (smF D (smF D s).2).1.toNat ((smF D (smF D (smF D s).2).2).2)).1.getD i default)) rfl (fun i hi => rfl) ?_
  repeat (first | refine AWp.seq ?_ | refine AWp.block ?_ | refine AWp.skip ?_)
  refine AWp.region ?_
  intro _
  repeat (first | refine AWp.seq ?_ | refine AWp.block ?_ | refine AWp.skip ?_)
  refine AWp.loop (fun q : (Nat × Rd) × List Rg => ⟨[(0, .obj 1001 0), (2, .obj 2 0), (3, .obj 3 0), (5, .i64 (smF D (smF D (smF D s).2).2).1), (9, .i64 ((smF D (smF D (smF D s).2).2).1 - q.1.1))], [(1001, hdC D q.1.2), (2, .cells [.i64 0, .val (.slice none 0 0), .val (.slice none 0 0)]), (3, .cells [.i64 (smF D s).1, roL 5 Opd.cells (eachF (opF D) (smF D (smF D s).2).1.toNat ((smF D (smF D (smF D s).2).2).2)).1, .sl ⟨62, []⟩ q.2.length]), (62, rowL Rg 127 2 Rg.cells q.2)]⟩) (fun q => Stk D q.1.2 ∧ q.2.length + q.1.1 ≤ 255 ∧ q.1.1 ≤ (smF D (smF D (smF D s).2).2).1.toNat ∧ q.2 ++ (eachF (rgF D) q.1.1 q.1.2).1 = (eachF (rgF D) (smF D (smF D (smF D s).2).2).1.toNat ((eachF (opF D) (smF D (smF D s).2).1.toNat ((smF D (smF D (smF D s).2).2).2)).2)).1 ∧ (eachF (rgF D) q.1.1 q.1.2).2 = (eachF (rgF D) (smF D (smF D (smF D s).2).2).1.toNat ((eachF (opF D) (smF D (smF D s).2).1.toNat ((smF D (smF D (smF D s).2).2).2)).2)).2) (fun q => q.1.1) (((smF D (smF D (smF D s).2).2).1.toNat, (eachF (opF D) (smF D (smF D s).2).1.toNat ((smF D (smF D (smF D s).2).2).2)).2), []) ⟨u3, by show 0 + (smF D (smF D (smF D s).2).2).1.toNat ≤ 255; omega, Nat.le_refl _, rfl, rfl⟩ ?_ ?_
  · refine And.intro ?_ (And.intro rfl (And.intro ?_ (And.intro rfl (And.intro ?_ (And.intro rfl (And.intro ?_ (And.intro ⟨_, _, rfl, rfl, fun i hi => by first | rfl | exact absurd hi (Nat.not_lt_zero _)⟩ (And.intro trivial (trivial)))))))))
    all_goals repeat' (first | exact rfl | exact trivial | exact congrArg (fun z => some (AV.i64 z)) (show (0 : Int) = (smF D (smF D (smF D s).2).2).1 - (((smF D (smF D (smF D s).2).2).1.toNat : Nat) : Int) from by omega) | refine And.intro ?_ ?_)
  rintro ⟨⟨k, t⟩, A⟩ ⟨ht, hAl, hkn, hA, hT⟩
  simp only at ht hAl hkn hA hT
  repeat (first | refine AWp.seq ?_ | refine AWp.block ?_ | refine AWp.skip ?_)
  refine AWp.region ?_
  repeat' refine And.intro ?_ ?_
  all_goals first | exact fun h => h | exact gT | exact gF | exact gN | skip
  intro _
  repeat (first | refine AWp.seq ?_ | refine AWp.block ?_ | refine AWp.skip ?_)
  refine AWp.cond (And.intro (fun h1 => ?_) (fun h1 => ?_))
  · have h1 : (bif decide ((smF D (smF D (smF D s).2).2).1 - (k : Int) < (smF D (smF D (smF D s).2).2).1) then !t.sh else false) = true := h1
    have hk : 0 < k := by
      rcases Nat.eq_zero_or_pos k with e | e
      · rw [decide_eq_false (show ¬ ((smF D (smF D (smF D s).2).2).1 - (k : Int) < (smF D (smF D (smF D s).2).2).1) from by omega)] at h1; cases h1
      · exact e
    have hsh : t.sh = false := by
      rw [decide_eq_true (show (smF D (smF D (smF D s).2).2).1 - (k : Int) < (smF D (smF D (smF D s).2).2).1 from by omega)] at h1
      simpa using h1
    obtain ⟨k, rfl⟩ : ∃ q, k = q + 1 := ⟨k - 1, by omega⟩
    rw [eachF_go hsh] at hA hT
    have hAl2 : (A ++ [((rgF D) t).1]).length = A.length + 1 := List.length_append
    have hw : IntKind.i64.wrap ((smF D (smF D (smF D s).2).2).1 - ((k + 1 : Nat) : Int) + 1) = (smF D (smF D (smF D s).2).2).1 - (k : Int) := by rw [wrap_in (by omega) (by omega)]; omega
    repeat (first | refine AWp.seq ?_ | refine AWp.block ?_ | refine AWp.skip ?_)
    refine AWp.region ?_
    refine CallX.lend (m_one hB t ht.1) [(1001, 1001)] rfl (And.intro rfl trivial) rfl ?_
    intro _
    repeat (first | refine AWp.seq ?_ | refine AWp.block ?_ | refine AWp.skip ?_)
    refine AWp.region ?_
    repeat' refine And.intro ?_ ?_
    all_goals first | exact (fun _ => by decide) | decide | exact Nat.le_refl _ | exact rfl | (intro i hi; have e : i = 0 := (by omega); subst e; rfl) | (show (A.length + 1) * _ ≤ _; omega) | skip
    intro _
    refine AWp.rename 76 62 rfl rfl ?_
    refine AWp.weaken (s' := ⟨[(0, .obj 1001 0), (2, .obj 2 0), (3, .obj 3 0), (5, .i64 (smF D (smF D (smF D s).2).2).1), (9, .i64 ((smF D (smF D (smF D s).2).2).1 - ((k + 1 : Nat) : Int)))], [(1001, hdC D ((rgF D) t).2), (2, .cells [.i64 0, .val (.slice none 0 0), .val (.slice none 0 0)]), (3, .cells [.i64 (smF D s).1, roL 5 Opd.cells (eachF (opF D) (smF D (smF D s).2).1.toNat ((smF D (smF D (smF D s).2).2).2)).1, .sl ⟨62, []⟩ (A ++ [((rgF D) t).1]).length]), (62, rowL Rg 127 2 Rg.cells (A ++ [((rgF D) t).1]))]⟩) ?_ ?_
    · refine And.intro ?_ (And.intro rfl (And.intro ?_ (And.intro rfl (And.intro ?_ (And.intro (congrArg (fun q : Nat => some (HO.cells [.i64 (smF D s).1, roL 5 Opd.cells (eachF (opF D) (smF D (smF D s).2).1.toNat ((smF D (smF D (smF D s).2).2).2)).1, .sl ⟨62, []⟩ q])) hAl2.symm) (And.intro ?_ (And.intro ⟨_, _, rfl, hAl2.symm, fun i hi => by rw [hAl2] at hi; exact (appL_row (enc := Rg.cells) hi).trans (by rw [← rg_cells2 hB t]; rfl)⟩ (And.intro trivial (trivial)))))))))
      all_goals repeat' (first | exact rfl | exact trivial | exact congrArg (fun n => some (AV.sl ⟨62, []⟩ n)) hAl2.symm | refine And.intro ?_ ?_)
    repeat (first | refine AWp.seq ?_ | refine AWp.block ?_ | refine AWp.skip ?_)
    refine AWp.region ?_
    intro _
    refine round_end ((k, ((rgF D) t).2), (A ++ [((rgF D) t).1])) ⟨(rgF_rdr D).stk t ht, by show (A ++ [((rgF D) t).1]).length + k ≤ 255; rw [hAl2]; omega, by show k ≤ (smF D (smF D (smF D s).2).2).1.toNat; omega, by rw [← hA]; exact List.append_assoc .., hT⟩ ?_ (by show k < k + 1; omega)
    refine And.intro ?_ (And.intro rfl (And.intro ?_ (And.intro rfl (And.intro ?_ (And.intro rfl (And.intro ?_ (And.intro ⟨_, _, rfl, rfl, fun i hi => rfl⟩ (And.intro trivial (trivial)))))))))
    all_goals repeat' (first | exact rfl | exact trivial | exact congrArg (fun z => some (AV.i64 z)) hw | refine And.intro ?_ ?_)
  have h1 : (bif decide ((smF D (smF D (smF D s).2).2).1 - (k : Int) < (smF D (smF D (smF D s).2).2).1) then !t.sh else false) = false := h1
  have hfin : eachF (rgF D) k t = ([], t) := by
    rcases Nat.eq_zero_or_pos k with e | e
    · subst e; rfl
    · rw [decide_eq_true (show (smF D (smF D (smF D s).2).2).1 - (k : Int) < (smF D (smF D (smF D s).2).2).1 from by omega)] at h1
      exact eachF_stop (by simpa using h1)
  rw [hfin] at hA hT
  have hA : A = (eachF (rgF D) (smF D (smF D (smF D s).2).2).1.toNat ((eachF (opF D) (smF D (smF D s).2).1.toNat ((smF D (smF D (smF D s).2).2).2)).2)).1 := (List.append_nil A).symm.trans hA
  have hT : t = (eachF (rgF D) (smF D (smF D (smF D s).2).2).1.toNat ((eachF (opF D) (smF D (smF D s).2).1.toNat ((smF D (smF D (smF D s).2).2).2)).2)).2 := hT
  subst hA hT
  refine AWp.exit ?_
  refine AWp.freeze 62 (fun i => Rg.cells ((eachF (rgF D) (smF D (smF D (smF D s).2).2).1.toNat ((eachF (opF D) (smF D (smF D s).2).1.toNat ((smF D (smF D (smF D s).2).2).2)).2)).1.getD i default)) rfl (fun i hi => rfl) ?_
  repeat (first | refine AWp.seq ?_ | refine AWp.block ?_ | refine AWp.skip ?_)
  refine AWp.region ?_
  intro _
  refine AWp.ret ⟨Or.inl rfl, ?_⟩
  intro _
  refine And.intro rfl (And.intro ?_ (And.intro rfl (And.intro ?_ trivial)))
  all_goals repeat' (first | exact rfl | exact trivial | refine And.intro ?_ ?_)
end Go.Proofs.Ytnbgpgbbfjaomaa

/- Contract of the document's ScriptOf. Condition: bytes. -/
namespace Go.Proofs.Ytnbgpgbbfjaomaa
open Go Go.Abs Go.RowKit Go.Abs.Gra

theorem c_ScriptOfLong (D : List Int) (h : 20000 < D.length) : ACallIs B.P 9 [bytesV D] (.tup [zeroS, .i64 1]) := by
  refine ACallIs.enter B _ _ Try.func9 rfl rfl Try.ntmps9 Try.results9 rfl fun hreal => ?_
  clear hreal
  repeat (first | refine AWp.seq ?_ | refine AWp.block ?_ | refine AWp.skip ?_)
  refine AWp.region ?_
  intro _
  repeat (first | refine AWp.seq ?_ | refine AWp.block ?_ | refine AWp.skip ?_)
  refine AWp.region ?_
  intro _
  repeat (first | refine AWp.seq ?_ | refine AWp.block ?_ | refine AWp.skip ?_)
  refine AWp.cond (And.intro (fun h1 => ?_) (fun h1 => ?_))
  · repeat (first | refine AWp.seq ?_ | refine AWp.block ?_ | refine AWp.skip ?_)
    refine AWp.region ?_
    intro _
    refine AWp.ret ⟨Or.inl rfl, rfl, ?_⟩
    intro _
    rfl
  · exfalso
    have := of_decide_eq_false h1
    omega
set_option maxHeartbeats 16000000 in
theorem c_ScriptOf {D : List Int} (hB : OkB D) (hl : D.length ≤ 20000) (hok : Scr.ok (scF2 D (insR D)).1) (r : AV)
    (h5 : (scF2 D (insR D)).2.sh = true → r = .tup [zeroS, .i64 5])
    (h4 : (scF2 D (insR D)).2.sh = false → (scF2 D (insR D)).2.p < D.length → r = .tup [zeroS, .i64 4])
    (hE : (scF2 D (insR D)).2.sh = false → ¬ (scF2 D (insR D)).2.p < D.length → scrF (scF2 D (insR D)).1 ≠ 0 → r = .tup [zeroS, .i64 (scrF (scF2 D (insR D)).1)])
    (h0 : (scF2 D (insR D)).2.sh = false → ¬ (scF2 D (insR D)).2.p < D.length → scrF (scF2 D (insR D)).1 = 0 → r = .tup [(scF2 D (insR D)).1.av, .i64 0]) :
    ACallIs B.P 9 [bytesV D] r := by
  have k0 := stk0 D
  have k1 : Stk D (r1 D) := (smF_rdr D).stk _ k0
  have k2 : Stk D (r2 D) := (smF_rdr D).stk _ k1
  have k3 : Stk D (r3 D) := (wdF_rdr D).stk _ k2
  have k4 : Stk D (r4 D) := (wdF_rdr D).stk _ k3
  have k4' := (smF_rdr D).stk _ k4
  have k5 : Stk D (r5 D) := (manF_rdr (wdF_rdr D)).stk _ k4
  have k6 : Stk D (r6 D) := (lstF_rdr D).stk _ k5
  have k6' := (smF_rdr D).stk _ k6
  have b4 := smF_rng hB (r4 D)
  have b6 := smF_rng hB (r6 D)
  refine ACallIs.enter B _ _ Try.func9 rfl rfl Try.ntmps9 Try.results9 rfl fun hreal => ?_
  clear hreal
  repeat (first | refine AWp.seq ?_ | refine AWp.block ?_ | refine AWp.skip ?_)
  refine AWp.region ?_
  intro _
  repeat (first | refine AWp.seq ?_ | refine AWp.block ?_ | refine AWp.skip ?_)
  refine AWp.region ?_
  intro _
  repeat (first | refine AWp.seq ?_ | refine AWp.block ?_ | refine AWp.skip ?_)
  refine AWp.cond (And.intro (fun h1 => ?_) (fun h1 => ?_))
  · exfalso
    have := of_decide_eq_true h1
    omega
  repeat (first | refine AWp.seq ?_ | refine AWp.block ?_ | refine AWp.skip ?_)
  refine AWp.region ?_
  intro _
  repeat (first | refine AWp.seq ?_ | refine AWp.block ?_ | refine AWp.skip ?_)
  refine AWp.region ?_
  intro _
  repeat (first | refine AWp.seq ?_ | refine AWp.block ?_ | refine AWp.skip ?_)
  refine AWp.region ?_
  refine CallX.lend (m_one hB ⟨0, false⟩ k0.1) [(1001, 23)] rfl (And.intro rfl trivial) rfl ?_
  repeat' refine And.intro ?_ ?_
  all_goals first | exact (fun _ => by decide) | skip
  intro _
  repeat (first | refine AWp.seq ?_ | refine AWp.block ?_ | refine AWp.skip ?_)
  refine AWp.region ?_
  refine CallX.lend (m_one hB _ k1.1) [(1001, 23)] rfl (And.intro rfl trivial) rfl ?_
  repeat' refine And.intro ?_ ?_
  all_goals first | exact (fun _ => by decide) | skip
  intro _
  repeat (first | refine AWp.seq ?_ | refine AWp.block ?_ | refine AWp.skip ?_)
  refine AWp.region ?_
  refine CallX.lend (m_four hB _ k2) [(1001, 23)] rfl (And.intro rfl trivial) rfl ?_
  intro _
  repeat (first | refine AWp.seq ?_ | refine AWp.block ?_ | refine AWp.skip ?_)
  refine AWp.region ?_
  refine CallX.lend (m_four hB _ k3) [(1001, 23)] rfl (And.intro rfl trivial) rfl ?_
  intro _
  repeat (first | refine AWp.seq ?_ | refine AWp.block ?_ | refine AWp.skip ?_)
  refine AWp.region ?_
  refine CallX.lend (m_one hB _ k4.1) [(1001, 23)] rfl (And.intro rfl trivial) rfl ?_
  intro _
  refine AWp.via (newρ 62) ⟨[(0, bytesV D), (2, .obj 2 0), (4, .obj 23 0), (5, .obj 5 0), (6, .i64 (smF D (r4 D)).1)], [(23, hdC D (smF D (r4 D)).2), (2, .cells [.i64 0, .i64 0, .val (.slice none 0 0), .val (.slice none 0 0), .i64 0, .i64 0, .val (.slice none 0 0)]), (5, .cells [.i64 (smF D ⟨0, false⟩).1, .i64 (smF D (r1 D)).1, .val (.slice none 0 0), .val (.slice none 0 0), .i64 (wdF D (r2 D)).1, .i64 (wdF D (r3 D)).1, .sl 62 0]), (62, rowL Int 3 1 intC [])]⟩ ?_ ?_
  · refine ⟨?_, ?_, newρ_inj 62 _, newρ_old (by decide) _⟩
    · repeat' (first | exact rfl | exact trivial | refine And.intro ?_ ?_)
    · refine And.intro (And.intro ⟨_, ⟨_, rfl, rfl, trivial⟩, rfl⟩ ?_) (And.intro (And.intro ⟨_, ⟨_, rfl, rfl, trivial⟩, rfl⟩ ?_) (And.intro (And.intro ⟨_, ⟨_, rfl, rfl, trivial⟩, rfl⟩ ?_) (And.intro (And.intro ⟨_, _, _, rfl⟩ ?_) (trivial))))
      all_goals repeat' (first | exact rfl | exact trivial | refine And.intro ?_ ?_)
  repeat (first | refine AWp.seq ?_ | refine AWp.block ?_ | refine AWp.skip ?_)
  refine AWp.region ?_
  intro _
  repeat (first | refine AWp.seq ?_ | refine AWp.block ?_ | refine AWp.skip ?_)
  refine AWp.loop (fun q : (Nat × Rd) × List Int => ⟨[(0, bytesV D), (2, .obj 2 0), (4, .obj 23 0), (5, .obj 5 0), (6, .i64 (smF D (r4 D)).1), (7, .i64 ((smF D (r4 D)).1 - q.1.1))], [(23, hdC D q.1.2), (2, .cells [.i64 0, .i64 0, .val (.slice none 0 0), .val (.slice none 0 0), .i64 0, .i64 0, .val (.slice none 0 0)]), (5, .cells [.i64 (smF D ⟨0, false⟩).1, .i64 (smF D (r1 D)).1, .val (.slice none 0 0), .val (.slice none 0 0), .i64 (wdF D (r2 D)).1, .i64 (wdF D (r3 D)).1, .sl ⟨62, []⟩ q.2.length]), (62, rowL Int 3 1 intC q.2)]⟩) (fun q => Stk D q.1.2 ∧ q.2.length + q.1.1 ≤ 255 ∧ q.1.1 ≤ (smF D (r4 D)).1.toNat ∧ q.2 ++ (eachF (wdF D) q.1.1 q.1.2).1 = (eachF (wdF D) (smF D (r4 D)).1.toNat ((smF D (r4 D)).2)).1 ∧ (eachF (wdF D) q.1.1 q.1.2).2 = (eachF (wdF D) (smF D (r4 D)).1.toNat ((smF D (r4 D)).2)).2) (fun q => q.1.1) (((smF D (r4 D)).1.toNat, (smF D (r4 D)).2), []) ⟨k4', by show 0 + (smF D (r4 D)).1.toNat ≤ 255; omega, Nat.le_refl _, rfl, rfl⟩ ?_ ?_
  · refine And.intro ?_ (And.intro rfl (And.intro ?_ (And.intro rfl (And.intro ?_ (And.intro rfl (And.intro ?_ (And.intro ⟨_, _, rfl, rfl, fun i hi => by first | rfl | exact absurd hi (Nat.not_lt_zero _)⟩ (And.intro trivial (trivial)))))))))
    all_goals repeat' (first | exact rfl | exact trivial | exact congrArg (fun z => some (AV.i64 z)) (show (0 : Int) = (smF D (r4 D)).1 - (((smF D (r4 D)).1.toNat : Nat) : Int) from by omega) | refine And.intro ?_ ?_)
  rintro ⟨⟨k, t⟩, A⟩ ⟨ht, hAl, hkn, hA, hT⟩
  simp only at ht hAl hkn hA hT
  repeat (first | refine AWp.seq ?_ | refine AWp.block ?_ | refine AWp.skip ?_)
  refine AWp.region ?_
  repeat' refine And.intro ?_ ?_
  all_goals first | exact fun h => h | exact gT | exact gF | exact gN | skip
  intro _
  repeat (first | refine AWp.seq ?_ | refine AWp.block ?_ | refine AWp.skip ?_)
  refine AWp.cond (And.intro (fun h1 => ?_) (fun h1 => ?_))
  · have h1 : (bif decide ((smF D (r4 D)).1 - (k : Int) < (smF D (r4 D)).1) then !t.sh else false) = true := h1
    have hk : 0 < k := by
      rcases Nat.eq_zero_or_pos k with e | e
      · rw [decide_eq_false (show ¬ ((smF D (r4 D)).1 - (k : Int) < (smF D (r4 D)).1) from by omega)] at h1; cases h1
      · exact e
    have hsh : t.sh = false := by
      rw [decide_eq_true (show (smF D (r4 D)).1 - (k : Int) < (smF D (r4 D)).1 from by omega)] at h1
      simpa using h1
    obtain ⟨k, rfl⟩ : ∃ q, k = q + 1 := ⟨k - 1, by omega⟩
    rw [eachF_go hsh] at hA hT
    have hAl2 : (A ++ [((wdF D) t).1]).length = A.length + 1 := List.length_append
    have hw : IntKind.i64.wrap ((smF D (r4 D)).1 - ((k + 1 : Nat) : Int) + 1) = (smF D (r4 D)).1 - (k : Int) := by rw [wrap_in (by omega) (by omega)]; omega
    repeat (first | refine AWp.seq ?_ | refine AWp.block ?_ | refine AWp.skip ?_)
    refine AWp.region ?_
    refine CallX.lend (m_four hB t ht) [(1001, 23)] rfl (And.intro rfl trivial) rfl ?_
    intro _
    repeat (first | refine AWp.seq ?_ | refine AWp.block ?_ | refine AWp.skip ?_)
    refine AWp.region ?_
    refine And.intro (Nat.le_refl _) (And.intro (fun i hi => by have e : i = 0 := (by omega); subst e; rfl) (And.intro rfl (And.intro (by show (A.length + 1) * _ ≤ _; omega) ?_)))
    intro _
    refine AWp.rename 61 62 rfl rfl ?_
    refine AWp.weaken (s' := ⟨[(0, bytesV D), (2, .obj 2 0), (4, .obj 23 0), (5, .obj 5 0), (6, .i64 (smF D (r4 D)).1), (7, .i64 ((smF D (r4 D)).1 - ((k + 1 : Nat) : Int)))], [(23, hdC D ((wdF D) t).2), (2, .cells [.i64 0, .i64 0, .val (.slice none 0 0), .val (.slice none 0 0), .i64 0, .i64 0, .val (.slice none 0 0)]), (5, .cells [.i64 (smF D ⟨0, false⟩).1, .i64 (smF D (r1 D)).1, .val (.slice none 0 0), .val (.slice none 0 0), .i64 (wdF D (r2 D)).1, .i64 (wdF D (r3 D)).1, .sl ⟨62, []⟩ (A ++ [((wdF D) t).1]).length]), (62, rowL Int 3 1 intC (A ++ [((wdF D) t).1]))]⟩) ?_ ?_
    · refine And.intro ?_ (And.intro rfl (And.intro ?_ (And.intro rfl (And.intro ?_ (And.intro (congrArg (fun q : Nat => some (HO.cells [.i64 (smF D ⟨0, false⟩).1, .i64 (smF D (r1 D)).1, .val (.slice none 0 0), .val (.slice none 0 0), .i64 (wdF D (r2 D)).1, .i64 (wdF D (r3 D)).1, .sl ⟨62, []⟩ q])) hAl2.symm) (And.intro ?_ (And.intro ⟨_, _, rfl, hAl2.symm, fun i hi => by rw [hAl2] at hi; exact (appL_row (enc := intC) hi)⟩ (And.intro trivial (trivial)))))))))
      all_goals repeat' (first | exact rfl | exact trivial | exact congrArg (fun n => some (AV.sl ⟨62, []⟩ n)) hAl2.symm | refine And.intro ?_ ?_)
    repeat (first | refine AWp.seq ?_ | refine AWp.block ?_ | refine AWp.skip ?_)
    refine AWp.region ?_
    intro _
    refine round_end ((k, ((wdF D) t).2), (A ++ [((wdF D) t).1])) ⟨(wdF_rdr D).stk t ht, by show (A ++ [((wdF D) t).1]).length + k ≤ 255; rw [hAl2]; omega, by show k ≤ (smF D (r4 D)).1.toNat; omega, by rw [← hA]; exact List.append_assoc .., hT⟩ ?_ (by show k < k + 1; omega)
    refine And.intro ?_ (And.intro rfl (And.intro ?_ (And.intro rfl (And.intro ?_ (And.intro rfl (And.intro ?_ (And.intro ⟨_, _, rfl, rfl, fun i hi => rfl⟩ (And.intro trivial (trivial)))))))))
    all_goals repeat' (first | exact rfl | exact trivial | exact congrArg (fun z => some (AV.i64 z)) hw | refine And.intro ?_ ?_)
  have h1 : (bif decide ((smF D (r4 D)).1 - (k : Int) < (smF D (r4 D)).1) then !t.sh else false) = false := h1
  have hfin : eachF (wdF D) k t = ([], t) := by
    rcases Nat.eq_zero_or_pos k with e | e
    · subst e; rfl
    · rw [decide_eq_true (show (smF D (r4 D)).1 - (k : Int) < (smF D (r4 D)).1 from by omega)] at h1
      exact eachF_stop (by simpa using h1)
  rw [hfin] at hA hT
  have hA : A = (eachF (wdF D) (smF D (r4 D)).1.toNat ((smF D (r4 D)).2)).1 := (List.append_nil A).symm.trans hA
  have hT : t = (eachF (wdF D) (smF D (r4 D)).1.toNat ((smF D (r4 D)).2)).2 := hT
  subst hA hT
  refine AWp.exit ?_
  refine AWp.freeze 62 (fun i => intC ((manF D (wdF D) (r4 D)).1.getD i default)) rfl (fun i hi => rfl) ?_
  repeat (first | refine AWp.seq ?_ | refine AWp.block ?_ | refine AWp.skip ?_)
  refine AWp.region ?_
  refine CallX.lend (m_some hB (r5 D) k5) [(1001, 23)] rfl (And.intro rfl trivial) rfl ?_
  intro _
  repeat (first | refine AWp.seq ?_ | refine AWp.block ?_ | refine AWp.skip ?_)
  refine AWp.region ?_
  refine CallX.lend (m_one hB (r6 D) k6.1) [(1001, 23)] rfl (And.intro rfl trivial) rfl ?_
  intro _
  refine AWp.via (newρ 63) ⟨[(0, bytesV D), (2, .obj 2 0), (4, .obj 23 0), (5, .obj 5 0), (6, .i64 (smF D (r6 D)).1)], [(23, hdC D (smF D (r6 D)).2), (2, .cells [.i64 0, .i64 0, .val (.slice none 0 0), .val (.slice none 0 0), .i64 0, .i64 0, .val (.slice none 0 0)]), (5, .cells [.i64 (smF D ⟨0, false⟩).1, .i64 (smF D (r1 D)).1, ints (lstF D (r5 D)).1, .sl 63 0, .i64 (wdF D (r2 D)).1, .i64 (wdF D (r3 D)).1, ints (manF D (wdF D) (r4 D)).1]), (63, rowL Blk 68 3 Blk.cells [])]⟩ ?_ ?_
  · refine ⟨?_, ?_, newρ_inj 63 _, newρ_old (by decide) _⟩
    · repeat' (first | exact rfl | exact trivial | refine And.intro ?_ ?_)
    · refine And.intro (And.intro ⟨_, ⟨_, rfl, rfl, trivial⟩, rfl⟩ ?_) (And.intro (And.intro ⟨_, ⟨_, rfl, rfl, trivial⟩, rfl⟩ ?_) (And.intro (And.intro ⟨_, ⟨_, rfl, rfl, trivial⟩, rfl⟩ ?_) (And.intro (And.intro ⟨_, _, _, rfl⟩ ?_) (trivial))))
      all_goals repeat' (first | exact rfl | exact trivial | refine And.intro ?_ ?_)
  repeat (first | refine AWp.seq ?_ | refine AWp.block ?_ | refine AWp.skip ?_)
  refine AWp.region ?_
  intro _
  repeat (first | refine AWp.seq ?_ | refine AWp.block ?_ | refine AWp.skip ?_)
  refine AWp.loop (fun q : (Nat × Rd) × List Blk => ⟨[(0, bytesV D), (2, .obj 2 0), (4, .obj 23 0), (5, .obj 5 0), (6, .i64 (smF D (r6 D)).1), (9, .i64 ((smF D (r6 D)).1 - q.1.1))], [(23, hdC D q.1.2), (2, .cells [.i64 0, .i64 0, .val (.slice none 0 0), .val (.slice none 0 0), .i64 0, .i64 0, .val (.slice none 0 0)]), (5, .cells [.i64 (smF D ⟨0, false⟩).1, .i64 (smF D (r1 D)).1, ints (lstF D (r5 D)).1, .sl ⟨63, []⟩ q.2.length, .i64 (wdF D (r2 D)).1, .i64 (wdF D (r3 D)).1, ints (manF D (wdF D) (r4 D)).1]), (63, rowL Blk 68 3 Blk.cells q.2)]⟩) (fun q => Stk D q.1.2 ∧ q.2.length + q.1.1 ≤ 255 ∧ q.1.1 ≤ (smF D (r6 D)).1.toNat ∧ q.2 ++ (eachF (bkF D (insR D)) q.1.1 q.1.2).1 = (eachF (bkF D (insR D)) (smF D (r6 D)).1.toNat ((smF D (r6 D)).2)).1 ∧ (eachF (bkF D (insR D)) q.1.1 q.1.2).2 = (eachF (bkF D (insR D)) (smF D (r6 D)).1.toNat ((smF D (r6 D)).2)).2) (fun q => q.1.1) (((smF D (r6 D)).1.toNat, (smF D (r6 D)).2), []) ⟨k6', by show 0 + (smF D (r6 D)).1.toNat ≤ 255; omega, Nat.le_refl _, rfl, rfl⟩ ?_ ?_
  · refine And.intro ?_ (And.intro rfl (And.intro ?_ (And.intro rfl (And.intro ?_ (And.intro rfl (And.intro ?_ (And.intro ⟨_, _, rfl, rfl, fun i hi => by first | rfl | exact absurd hi (Nat.not_lt_zero _)⟩ (And.intro trivial (trivial)))))))))
    all_goals repeat' (first | exact rfl | exact trivial | exact congrArg (fun z => some (AV.i64 z)) (show (0 : Int) = (smF D (r6 D)).1 - (((smF D (r6 D)).1.toNat : Nat) : Int) from by omega) | refine And.intro ?_ ?_)
  rintro ⟨⟨k, t⟩, A⟩ ⟨ht, hAl, hkn, hA, hT⟩
  simp only at ht hAl hkn hA hT
  repeat (first | refine AWp.seq ?_ | refine AWp.block ?_ | refine AWp.skip ?_)
  refine AWp.region ?_
  repeat' refine And.intro ?_ ?_
  all_goals first | exact fun h => h | exact gT | exact gF | exact gN | skip
  intro _
  repeat (first | refine AWp.seq ?_ | refine AWp.block ?_ | refine AWp.skip ?_)
  refine AWp.cond (And.intro (fun h1 => ?_) (fun h1 => ?_))
  · have h1 : (bif decide ((smF D (r6 D)).1 - (k : Int) < (smF D (r6 D)).1) then !t.sh else false) = true := h1
    have hk : 0 < k := by
      rcases Nat.eq_zero_or_pos k with e | e
      · rw [decide_eq_false (show ¬ ((smF D (r6 D)).1 - (k : Int) < (smF D (r6 D)).1) from by omega)] at h1; cases h1
      · exact e
    have hsh : t.sh = false := by
      rw [decide_eq_true (show (smF D (r6 D)).1 - (k : Int) < (smF D (r6 D)).1 from by omega)] at h1
      simpa using h1
    obtain ⟨k, rfl⟩ : ∃ q, k = q + 1 := ⟨k - 1, by omega⟩
    rw [eachF_go hsh] at hA hT
    have hAl2 : (A ++ [((bkF D (insR D)) t).1]).length = A.length + 1 := List.length_append
    have hw : IntKind.i64.wrap ((smF D (r6 D)).1 - ((k + 1 : Nat) : Int) + 1) = (smF D (r6 D)).1 - (k : Int) := by rw [wrap_in (by omega) (by omega)]; omega
    have q1 := (lstF_rdr D).stk t ht
    have q1' := (smF_rdr D).stk _ q1
    have q2 := (manF_rdr (insR_rdr D)).stk _ q1
    have q2' := (smF_rdr D).stk _ q2
    have c1 := smF_rng hB (lstF D t).2
    have c2 := smF_rng hB (manF D (insR D) (lstF D t).2).2
    repeat (first | refine AWp.seq ?_ | refine AWp.block ?_ | refine AWp.skip ?_)
    refine AWp.region ?_
    intro _
    repeat (first | refine AWp.seq ?_ | refine AWp.block ?_ | refine AWp.skip ?_)
    refine AWp.region ?_
    refine CallX.lend (m_some hB t ht) [(1001, 23)] rfl (And.intro rfl trivial) rfl ?_
    intro _
    repeat (first | refine AWp.seq ?_ | refine AWp.block ?_ | refine AWp.skip ?_)
    refine AWp.region ?_
    refine CallX.lend (m_one hB _ q1.1) [(1001, 23)] rfl (And.intro rfl trivial) rfl ?_
    intro _
    refine AWp.via (newρ 64) ⟨[(0, bytesV D), (2, .obj 2 0), (4, .obj 23 0), (5, .obj 5 0), (6, .i64 (smF D (r6 D)).1), (9, .i64 ((smF D (r6 D)).1 - ((k + 1 : Nat) : Int))), (10, .obj 10 0), (11, .i64 (smF D (lstF D t).2).1)], [(23, hdC D (smF D (lstF D t).2).2), (2, .cells [.i64 0, .i64 0, .val (.slice none 0 0), .val (.slice none 0 0), .i64 0, .i64 0, .val (.slice none 0 0)]), (5, .cells [.i64 (smF D ⟨0, false⟩).1, .i64 (smF D (r1 D)).1, ints (lstF D (r5 D)).1, .sl ⟨63, []⟩ A.length, .i64 (wdF D (r2 D)).1, .i64 (wdF D (r3 D)).1, ints (manF D (wdF D) (r4 D)).1]), (63, rowL Blk 68 3 Blk.cells A), (10, .cells [ints (lstF D t).1, .sl 64 0, .val (.slice none 0 0)]), (64, rowL Ins 77 3 Ins.cells [])]⟩ ?_ ?_
    · refine ⟨?_, ?_, newρ_inj 64 _, newρ_old (by decide) _⟩
      · repeat' (first | exact rfl | exact trivial | refine And.intro ?_ ?_)
      · refine And.intro (And.intro ⟨_, ⟨_, rfl, rfl, trivial⟩, rfl⟩ ?_) (And.intro (And.intro ⟨_, ⟨_, rfl, rfl, trivial⟩, rfl⟩ ?_) (And.intro (And.intro ⟨_, ⟨_, rfl, rfl, trivial⟩, rfl⟩ ?_) (And.intro (And.intro ⟨_, ⟨_, rfl, rfl, trivial⟩, Or.inl ⟨_, rfl, fun i hi => rfl⟩⟩ ?_) (And.intro (And.intro ⟨_, ⟨_, rfl, rfl, trivial⟩, rfl⟩ ?_) (And.intro (And.intro ⟨_, _, _, rfl⟩ ?_) (trivial))))))
        all_goals repeat' (first | exact rfl | exact trivial | refine And.intro ?_ ?_)
    repeat (first | refine AWp.seq ?_ | refine AWp.block ?_ | refine AWp.skip ?_)
    refine AWp.region ?_
    intro _
    repeat (first | refine AWp.seq ?_ | refine AWp.block ?_ | refine AWp.skip ?_)
    refine AWp.loop (fun q : (Nat × Rd) × List Ins => ⟨[(0, bytesV D), (2, .obj 2 0), (4, .obj 23 0), (5, .obj 5 0), (6, .i64 (smF D (r6 D)).1), (9, .i64 ((smF D (r6 D)).1 - ((k + 1 : Nat) : Int))), (10, .obj 10 0), (11, .i64 (smF D (lstF D t).2).1), (12, .i64 ((smF D (lstF D t).2).1 - q.1.1))], [(23, hdC D q.1.2), (2, .cells [.i64 0, .i64 0, .val (.slice none 0 0), .val (.slice none 0 0), .i64 0, .i64 0, .val (.slice none 0 0)]), (5, .cells [.i64 (smF D ⟨0, false⟩).1, .i64 (smF D (r1 D)).1, ints (lstF D (r5 D)).1, .sl ⟨63, []⟩ A.length, .i64 (wdF D (r2 D)).1, .i64 (wdF D (r3 D)).1, ints (manF D (wdF D) (r4 D)).1]), (63, rowL Blk 68 3 Blk.cells A), (10, .cells [ints (lstF D t).1, .sl ⟨64, []⟩ q.2.length, .val (.slice none 0 0)]), (64, rowL Ins 77 3 Ins.cells q.2)]⟩) (fun q => Stk D q.1.2 ∧ q.2.length + q.1.1 ≤ 255 ∧ q.1.1 ≤ (smF D (lstF D t).2).1.toNat ∧ q.2 ++ (eachF (insR D) q.1.1 q.1.2).1 = (eachF (insR D) (smF D (lstF D t).2).1.toNat ((smF D (lstF D t).2).2)).1 ∧ (eachF (insR D) q.1.1 q.1.2).2 = (eachF (insR D) (smF D (lstF D t).2).1.toNat ((smF D (lstF D t).2).2)).2) (fun q => q.1.1) (((smF D (lstF D t).2).1.toNat, (smF D (lstF D t).2).2), []) ⟨q1', by show 0 + (smF D (lstF D t).2).1.toNat ≤ 255; omega, Nat.le_refl _, rfl, rfl⟩ ?_ ?_
    · refine And.intro ?_ (And.intro rfl (And.intro ?_ (And.intro rfl (And.intro ?_ (And.intro rfl (And.intro ?_ (And.intro ⟨_, _, rfl, rfl, fun i hi => by first | rfl | exact absurd hi (Nat.not_lt_zero _)⟩ (And.intro trivial (And.intro rfl (And.intro ?_ (And.intro ⟨_, _, rfl, rfl, fun i hi => by first | rfl | exact absurd hi (Nat.not_lt_zero _)⟩ (And.intro trivial (trivial)))))))))))))
      all_goals repeat' (first | exact rfl | exact trivial | exact congrArg (fun z => some (AV.i64 z)) (show (0 : Int) = (smF D (lstF D t).2).1 - (((smF D (lstF D t).2).1.toNat : Nat) : Int) from by omega) | refine And.intro ?_ ?_)
    rintro ⟨⟨ki, ti⟩, Ai⟩ ⟨hti, hAli, hkni, hAi, hTi⟩
    simp only at hti hAli hkni hAi hTi
    repeat (first | refine AWp.seq ?_ | refine AWp.block ?_ | refine AWp.skip ?_)
    refine AWp.region ?_
    repeat' refine And.intro ?_ ?_
    all_goals first | exact fun h => h | exact gT | exact gF | exact gN | skip
    intro _
    repeat (first | refine AWp.seq ?_ | refine AWp.block ?_ | refine AWp.skip ?_)
    refine AWp.cond (And.intro (fun h1i => ?_) (fun h1i => ?_))
    · have h1 : (bif decide ((smF D (lstF D t).2).1 - (ki : Int) < (smF D (lstF D t).2).1) then !ti.sh else false) = true := h1i
      have hk : 0 < ki := by
        rcases Nat.eq_zero_or_pos ki with e | e
        · rw [decide_eq_false (show ¬ ((smF D (lstF D t).2).1 - (ki : Int) < (smF D (lstF D t).2).1) from by omega)] at h1; cases h1
        · exact e
      have hsh : ti.sh = false := by
        rw [decide_eq_true (show (smF D (lstF D t).2).1 - (ki : Int) < (smF D (lstF D t).2).1 from by omega)] at h1
        simpa using h1
      obtain ⟨ki, rfl⟩ : ∃ q, ki = q + 1 := ⟨ki - 1, by omega⟩
      rw [eachF_go hsh] at hAi hTi
      have hAl2i : (Ai ++ [((insR D) ti).1]).length = Ai.length + 1 := List.length_append
      have hwi : IntKind.i64.wrap ((smF D (lstF D t).2).1 - ((ki + 1 : Nat) : Int) + 1) = (smF D (lstF D t).2).1 - (ki : Int) := by rw [wrap_in (by omega) (by omega)]; omega
      repeat (first | refine AWp.seq ?_ | refine AWp.block ?_ | refine AWp.skip ?_)
      refine AWp.region ?_
      refine CallX.lend (m_step2 hB ti hti) [(1001, 23)] rfl (And.intro rfl trivial) rfl ?_
      intro _
      refine AWp.freezeObj 13 rfl rfl ?_
      repeat (first | refine AWp.seq ?_ | refine AWp.block ?_ | refine AWp.skip ?_)
      refine AWp.region ?_
      refine And.intro (Nat.le_refl _) (And.intro (fun i hi => by have e : i = 0 := (by omega); subst e; rfl) (And.intro rfl (And.intro (by show (Ai.length + 1) * _ ≤ _; omega) ?_)))
      intro _
      refine AWp.rename 105 64 rfl rfl ?_
      refine AWp.weaken (s' := ⟨[(0, bytesV D), (2, .obj 2 0), (4, .obj 23 0), (5, .obj 5 0), (6, .i64 (smF D (r6 D)).1), (9, .i64 ((smF D (r6 D)).1 - ((k + 1 : Nat) : Int))), (10, .obj 10 0), (11, .i64 (smF D (lstF D t).2).1), (12, .i64 ((smF D (lstF D t).2).1 - ((ki + 1 : Nat) : Int)))], [(23, hdC D ((insR D) ti).2), (2, .cells [.i64 0, .i64 0, .val (.slice none 0 0), .val (.slice none 0 0), .i64 0, .i64 0, .val (.slice none 0 0)]), (5, .cells [.i64 (smF D ⟨0, false⟩).1, .i64 (smF D (r1 D)).1, ints (lstF D (r5 D)).1, .sl ⟨63, []⟩ A.length, .i64 (wdF D (r2 D)).1, .i64 (wdF D (r3 D)).1, ints (manF D (wdF D) (r4 D)).1]), (63, rowL Blk 68 3 Blk.cells A), (10, .cells [ints (lstF D t).1, .sl ⟨64, []⟩ (Ai ++ [((insR D) ti).1]).length, .val (.slice none 0 0)]), (64, rowL Ins 77 3 Ins.cells (Ai ++ [((insR D) ti).1]))]⟩) ?_ ?_
      · refine And.intro ?_ (And.intro rfl (And.intro ?_ (And.intro rfl (And.intro ?_ (And.intro rfl (And.intro ?_ (And.intro ⟨_, _, rfl, rfl, fun i hi => rfl⟩ (And.intro trivial (And.intro (congrArg (fun q : Nat => some (HO.cells [ints (lstF D t).1, .sl ⟨64, []⟩ q, .val (.slice none 0 0)])) hAl2i.symm) (And.intro ?_ (And.intro ⟨_, _, rfl, hAl2i.symm, fun i hi => by rw [hAl2i] at hi; exact (appL_row (enc := Ins.cells) hi)⟩ (And.intro trivial (trivial)))))))))))))
        all_goals repeat' (first | exact rfl | exact trivial | exact congrArg (fun n => some (AV.sl ⟨64, []⟩ n)) hAl2i.symm | refine And.intro ?_ ?_)
      repeat (first | refine AWp.seq ?_ | refine AWp.block ?_ | refine AWp.skip ?_)
      refine AWp.region ?_
      intro _
      refine round_end ((ki, ((insR D) ti).2), (Ai ++ [((insR D) ti).1])) ⟨(insR_rdr D).stk ti hti, by show (Ai ++ [((insR D) ti).1]).length + ki ≤ 255; rw [hAl2i]; omega, by show ki ≤ (smF D (lstF D t).2).1.toNat; omega, by rw [← hAi]; exact List.append_assoc .., hTi⟩ ?_ (by show ki < ki + 1; omega)
      refine And.intro ?_ (And.intro rfl (And.intro ?_ (And.intro rfl (And.intro ?_ (And.intro rfl (And.intro ?_ (And.intro ⟨_, _, rfl, rfl, fun i hi => rfl⟩ (And.intro trivial (And.intro rfl (And.intro ?_ (And.intro ⟨_, _, rfl, rfl, fun i hi => rfl⟩ (And.intro trivial (trivial)))))))))))))
      all_goals repeat' (first | exact rfl | exact trivial | exact congrArg (fun z => some (AV.i64 z)) hwi | refine And.intro ?_ ?_)
    have h1 : (bif decide ((smF D (lstF D t).2).1 - (ki : Int) < (smF D (lstF D t).2).1) then !ti.sh else false) = false := h1i
    have hfin : eachF (insR D) ki ti = ([], ti) := by
      rcases Nat.eq_zero_or_pos ki with e | e
      · subst e; rfl
      · rw [decide_eq_true (show (smF D (lstF D t).2).1 - (ki : Int) < (smF D (lstF D t).2).1 from by omega)] at h1
        exact eachF_stop (by simpa using h1)
    rw [hfin] at hAi hTi
    have hAi : Ai = (eachF (insR D) (smF D (lstF D t).2).1.toNat ((smF D (lstF D t).2).2)).1 := (List.append_nil Ai).symm.trans hAi
    have hTi : ti = (eachF (insR D) (smF D (lstF D t).2).1.toNat ((smF D (lstF D t).2).2)).2 := hTi
    subst hAi hTi
    refine AWp.exit ?_
    refine AWp.freeze 64 (fun i => Ins.cells ((manF D (insR D) (lstF D t).2).1.getD i default)) rfl (fun i hi => rfl) ?_
    repeat (first | refine AWp.seq ?_ | refine AWp.block ?_ | refine AWp.skip ?_)
    refine AWp.region ?_
    refine CallX.lend (m_one hB _ q2.1) [(1001, 23)] rfl (And.intro rfl trivial) rfl ?_
    intro _
    refine AWp.via (newρ 65) ⟨[(0, bytesV D), (2, .obj 2 0), (4, .obj 23 0), (5, .obj 5 0), (6, .i64 (smF D (r6 D)).1), (9, .i64 ((smF D (r6 D)).1 - ((k + 1 : Nat) : Int))), (10, .obj 10 0), (11, .i64 (smF D (manF D (insR D) (lstF D t).2).2).1)], [(23, hdC D (smF D (manF D (insR D) (lstF D t).2).2).2), (2, .cells [.i64 0, .i64 0, .val (.slice none 0 0), .val (.slice none 0 0), .i64 0, .i64 0, .val (.slice none 0 0)]), (5, .cells [.i64 (smF D ⟨0, false⟩).1, .i64 (smF D (r1 D)).1, ints (lstF D (r5 D)).1, .sl ⟨63, []⟩ A.length, .i64 (wdF D (r2 D)).1, .i64 (wdF D (r3 D)).1, ints (manF D (wdF D) (r4 D)).1]), (63, rowL Blk 68 3 Blk.cells A), (10, .cells [ints (lstF D t).1, roL 3 Ins.cells (manF D (insR D) (lstF D t).2).1, .sl 65 0]), (65, rowL Edg 80 2 Edg.cells [])]⟩ ?_ ?_
    · refine ⟨?_, ?_, newρ_inj 65 _, newρ_old (by decide) _⟩
      · repeat' (first | exact rfl | exact trivial | refine And.intro ?_ ?_)
      · refine And.intro (And.intro ⟨_, ⟨_, rfl, rfl, trivial⟩, rfl⟩ ?_) (And.intro (And.intro ⟨_, ⟨_, rfl, rfl, trivial⟩, rfl⟩ ?_) (And.intro (And.intro ⟨_, ⟨_, rfl, rfl, trivial⟩, rfl⟩ ?_) (And.intro (And.intro ⟨_, ⟨_, rfl, rfl, trivial⟩, Or.inl ⟨_, rfl, fun i hi => rfl⟩⟩ ?_) (And.intro (And.intro ⟨_, ⟨_, rfl, rfl, trivial⟩, rfl⟩ ?_) (And.intro (And.intro ⟨_, _, _, rfl⟩ ?_) (trivial))))))
        all_goals repeat' (first | exact rfl | exact trivial | refine And.intro ?_ ?_)
    repeat (first | refine AWp.seq ?_ | refine AWp.block ?_ | refine AWp.skip ?_)
    refine AWp.region ?_
    intro _
    repeat (first | refine AWp.seq ?_ | refine AWp.block ?_ | refine AWp.skip ?_)
    refine AWp.loop (fun q : (Nat × Rd) × List Edg => ⟨[(0, bytesV D), (2, .obj 2 0), (4, .obj 23 0), (5, .obj 5 0), (6, .i64 (smF D (r6 D)).1), (9, .i64 ((smF D (r6 D)).1 - ((k + 1 : Nat) : Int))), (10, .obj 10 0), (11, .i64 (smF D (manF D (insR D) (lstF D t).2).2).1), (14, .i64 ((smF D (manF D (insR D) (lstF D t).2).2).1 - q.1.1))], [(23, hdC D q.1.2), (2, .cells [.i64 0, .i64 0, .val (.slice none 0 0), .val (.slice none 0 0), .i64 0, .i64 0, .val (.slice none 0 0)]), (5, .cells [.i64 (smF D ⟨0, false⟩).1, .i64 (smF D (r1 D)).1, ints (lstF D (r5 D)).1, .sl ⟨63, []⟩ A.length, .i64 (wdF D (r2 D)).1, .i64 (wdF D (r3 D)).1, ints (manF D (wdF D) (r4 D)).1]), (63, rowL Blk 68 3 Blk.cells A), (10, .cells [ints (lstF D t).1, roL 3 Ins.cells (manF D (insR D) (lstF D t).2).1, .sl ⟨65, []⟩ q.2.length]), (65, rowL Edg 80 2 Edg.cells q.2)]⟩) (fun q => Stk D q.1.2 ∧ q.2.length + q.1.1 ≤ 255 ∧ q.1.1 ≤ (smF D (manF D (insR D) (lstF D t).2).2).1.toNat ∧ q.2 ++ (eachF (edF D) q.1.1 q.1.2).1 = (eachF (edF D) (smF D (manF D (insR D) (lstF D t).2).2).1.toNat ((smF D (manF D (insR D) (lstF D t).2).2).2)).1 ∧ (eachF (edF D) q.1.1 q.1.2).2 = (eachF (edF D) (smF D (manF D (insR D) (lstF D t).2).2).1.toNat ((smF D (manF D (insR D) (lstF D t).2).2).2)).2) (fun q => q.1.1) (((smF D (manF D (insR D) (lstF D t).2).2).1.toNat, (smF D (manF D (insR D) (lstF D t).2).2).2), []) ⟨q2', by show 0 + (smF D (manF D (insR D) (lstF D t).2).2).1.toNat ≤ 255; omega, Nat.le_refl _, rfl, rfl⟩ ?_ ?_
    · refine And.intro ?_ (And.intro rfl (And.intro ?_ (And.intro rfl (And.intro ?_ (And.intro rfl (And.intro ?_ (And.intro ⟨_, _, rfl, rfl, fun i hi => by first | rfl | exact absurd hi (Nat.not_lt_zero _)⟩ (And.intro trivial (And.intro rfl (And.intro ?_ (And.intro ⟨_, _, rfl, rfl, fun i hi => by first | rfl | exact absurd hi (Nat.not_lt_zero _)⟩ (And.intro trivial (trivial)))))))))))))
      all_goals repeat' (first | exact rfl | exact trivial | exact congrArg (fun z => some (AV.i64 z)) (show (0 : Int) = (smF D (manF D (insR D) (lstF D t).2).2).1 - (((smF D (manF D (insR D) (lstF D t).2).2).1.toNat : Nat) : Int) from by omega) | refine And.intro ?_ ?_)
    rintro ⟨⟨kj, tj⟩, Aj⟩ ⟨htj, hAlj, hknj, hAj, hTj⟩
    simp only at htj hAlj hknj hAj hTj
    repeat (first | refine AWp.seq ?_ | refine AWp.block ?_ | refine AWp.skip ?_)
    refine AWp.region ?_
    repeat' refine And.intro ?_ ?_
    all_goals first | exact fun h => h | exact gT | exact gF | exact gN | skip
    intro _
    repeat (first | refine AWp.seq ?_ | refine AWp.block ?_ | refine AWp.skip ?_)
    refine AWp.cond (And.intro (fun h1j => ?_) (fun h1j => ?_))
    · have h1 : (bif decide ((smF D (manF D (insR D) (lstF D t).2).2).1 - (kj : Int) < (smF D (manF D (insR D) (lstF D t).2).2).1) then !tj.sh else false) = true := h1j
      have hk : 0 < kj := by
        rcases Nat.eq_zero_or_pos kj with e | e
        · rw [decide_eq_false (show ¬ ((smF D (manF D (insR D) (lstF D t).2).2).1 - (kj : Int) < (smF D (manF D (insR D) (lstF D t).2).2).1) from by omega)] at h1; cases h1
        · exact e
      have hsh : tj.sh = false := by
        rw [decide_eq_true (show (smF D (manF D (insR D) (lstF D t).2).2).1 - (kj : Int) < (smF D (manF D (insR D) (lstF D t).2).2).1 from by omega)] at h1
        simpa using h1
      obtain ⟨kj, rfl⟩ : ∃ q, kj = q + 1 := ⟨kj - 1, by omega⟩
      rw [eachF_go hsh] at hAj hTj
      have hAl2j : (Aj ++ [((edF D) tj).1]).length = Aj.length + 1 := List.length_append
      have hwj : IntKind.i64.wrap ((smF D (manF D (insR D) (lstF D t).2).2).1 - ((kj + 1 : Nat) : Int) + 1) = (smF D (manF D (insR D) (lstF D t).2).2).1 - (kj : Int) := by rw [wrap_in (by omega) (by omega)]; omega
      have tj1 := (smF_rdr D).stk tj htj
      repeat (first | refine AWp.seq ?_ | refine AWp.block ?_ | refine AWp.skip ?_)
      refine AWp.region ?_
      intro _
      repeat (first | refine AWp.seq ?_ | refine AWp.block ?_ | refine AWp.skip ?_)
      refine AWp.region ?_
      refine CallX.lend (m_one hB tj htj.1) [(1001, 23)] rfl (And.intro rfl trivial) rfl ?_
      intro _
      repeat (first | refine AWp.seq ?_ | refine AWp.block ?_ | refine AWp.skip ?_)
      refine AWp.region ?_
      refine CallX.lend (m_some hB _ tj1) [(1001, 23)] rfl (And.intro rfl trivial) rfl ?_
      intro _
      refine AWp.freezeObj 15 rfl rfl ?_
      repeat (first | refine AWp.seq ?_ | refine AWp.block ?_ | refine AWp.skip ?_)
      refine AWp.region ?_
      refine And.intro (Nat.le_refl _) (And.intro (fun i hi => by have e : i = 0 := (by omega); subst e; rfl) (And.intro rfl (And.intro (by show (Aj.length + 1) * _ ≤ _; omega) ?_)))
      intro _
      refine AWp.rename 132 65 rfl rfl ?_
      refine AWp.weaken (s' := ⟨[(0, bytesV D), (2, .obj 2 0), (4, .obj 23 0), (5, .obj 5 0), (6, .i64 (smF D (r6 D)).1), (9, .i64 ((smF D (r6 D)).1 - ((k + 1 : Nat) : Int))), (10, .obj 10 0), (11, .i64 (smF D (manF D (insR D) (lstF D t).2).2).1), (14, .i64 ((smF D (manF D (insR D) (lstF D t).2).2).1 - ((kj + 1 : Nat) : Int)))], [(23, hdC D ((edF D) tj).2), (2, .cells [.i64 0, .i64 0, .val (.slice none 0 0), .val (.slice none 0 0), .i64 0, .i64 0, .val (.slice none 0 0)]), (5, .cells [.i64 (smF D ⟨0, false⟩).1, .i64 (smF D (r1 D)).1, ints (lstF D (r5 D)).1, .sl ⟨63, []⟩ A.length, .i64 (wdF D (r2 D)).1, .i64 (wdF D (r3 D)).1, ints (manF D (wdF D) (r4 D)).1]), (63, rowL Blk 68 3 Blk.cells A), (10, .cells [ints (lstF D t).1, roL 3 Ins.cells (manF D (insR D) (lstF D t).2).1, .sl ⟨65, []⟩ (Aj ++ [((edF D) tj).1]).length]), (65, rowL Edg 80 2 Edg.cells (Aj ++ [((edF D) tj).1]))]⟩) ?_ ?_
      · refine And.intro ?_ (And.intro rfl (And.intro ?_ (And.intro rfl (And.intro ?_ (And.intro rfl (And.intro ?_ (And.intro ⟨_, _, rfl, rfl, fun i hi => rfl⟩ (And.intro trivial (And.intro (congrArg (fun q : Nat => some (HO.cells [ints (lstF D t).1, roL 3 Ins.cells (manF D (insR D) (lstF D t).2).1, .sl ⟨65, []⟩ q])) hAl2j.symm) (And.intro ?_ (And.intro ⟨_, _, rfl, hAl2j.symm, fun i hi => by rw [hAl2j] at hi; exact (appL_row (enc := Edg.cells) hi)⟩ (And.intro trivial (trivial)))))))))))))
        all_goals repeat' (first | exact rfl | exact trivial | exact congrArg (fun n => some (AV.sl ⟨65, []⟩ n)) hAl2j.symm | refine And.intro ?_ ?_)
      repeat (first | refine AWp.seq ?_ | refine AWp.block ?_ | refine AWp.skip ?_)
      refine AWp.region ?_
      intro _
      refine round_end ((kj, ((edF D) tj).2), (Aj ++ [((edF D) tj).1])) ⟨(edF_rdr D).stk tj htj, by show (Aj ++ [((edF D) tj).1]).length + kj ≤ 255; rw [hAl2j]; omega, by show kj ≤ (smF D (manF D (insR D) (lstF D t).2).2).1.toNat; omega, by rw [← hAj]; exact List.append_assoc .., hTj⟩ ?_ (by show kj < kj + 1; omega)
      refine And.intro ?_ (And.intro rfl (And.intro ?_ (And.intro rfl (And.intro ?_ (And.intro rfl (And.intro ?_ (And.intro ⟨_, _, rfl, rfl, fun i hi => rfl⟩ (And.intro trivial (And.intro rfl (And.intro ?_ (And.intro ⟨_, _, rfl, rfl, fun i hi => rfl⟩ (And.intro trivial (trivial)))))))))))))
      all_goals repeat' (first | exact rfl | exact trivial | exact congrArg (fun z => some (AV.i64 z)) hwj | refine And.intro ?_ ?_)
    have h1 : (bif decide ((smF D (manF D (insR D) (lstF D t).2).2).1 - (kj : Int) < (smF D (manF D (insR D) (lstF D t).2).2).1) then !tj.sh else false) = false := h1j
    have hfin : eachF (edF D) kj tj = ([], tj) := by
      rcases Nat.eq_zero_or_pos kj with e | e
      · subst e; rfl
      · rw [decide_eq_true (show (smF D (manF D (insR D) (lstF D t).2).2).1 - (kj : Int) < (smF D (manF D (insR D) (lstF D t).2).2).1 from by omega)] at h1
        exact eachF_stop (by simpa using h1)
    rw [hfin] at hAj hTj
    have hAj : Aj = (eachF (edF D) (smF D (manF D (insR D) (lstF D t).2).2).1.toNat ((smF D (manF D (insR D) (lstF D t).2).2).2)).1 := (List.append_nil Aj).symm.trans hAj
    have hTj : tj = (eachF (edF D) (smF D (manF D (insR D) (lstF D t).2).2).1.toNat ((smF D (manF D (insR D) (lstF D t).2).2).2)).2 := hTj
    subst hAj hTj
    refine AWp.exit ?_
    refine AWp.freeze 65 (fun i => Edg.cells ((manF D (edF D) (manF D (insR D) (lstF D t).2).2).1.getD i default)) rfl (fun i hi => rfl) ?_
    refine AWp.freezeObj 10 rfl rfl ?_
    repeat (first | refine AWp.seq ?_ | refine AWp.block ?_ | refine AWp.skip ?_)
    refine AWp.region ?_
    refine And.intro (Nat.le_refl _) (And.intro (fun i hi => by have e : i = 0 := (by omega); subst e; rfl) (And.intro rfl (And.intro (by show (A.length + 1) * _ ≤ _; omega) ?_)))
    intro _
    refine AWp.rename 139 63 rfl rfl ?_
    refine AWp.weaken (s' := ⟨[(0, bytesV D), (2, .obj 2 0), (4, .obj 23 0), (5, .obj 5 0), (6, .i64 (smF D (r6 D)).1), (9, .i64 ((smF D (r6 D)).1 - ((k + 1 : Nat) : Int)))], [(23, hdC D ((bkF D (insR D)) t).2), (2, .cells [.i64 0, .i64 0, .val (.slice none 0 0), .val (.slice none 0 0), .i64 0, .i64 0, .val (.slice none 0 0)]), (5, .cells [.i64 (smF D ⟨0, false⟩).1, .i64 (smF D (r1 D)).1, ints (lstF D (r5 D)).1, .sl ⟨63, []⟩ (A ++ [((bkF D (insR D)) t).1]).length, .i64 (wdF D (r2 D)).1, .i64 (wdF D (r3 D)).1, ints (manF D (wdF D) (r4 D)).1]), (63, rowL Blk 68 3 Blk.cells (A ++ [((bkF D (insR D)) t).1]))]⟩) ?_ ?_
    · refine And.intro ?_ (And.intro rfl (And.intro ?_ (And.intro rfl (And.intro ?_ (And.intro (congrArg (fun q : Nat => some (HO.cells [.i64 (smF D ⟨0, false⟩).1, .i64 (smF D (r1 D)).1, ints (lstF D (r5 D)).1, .sl ⟨63, []⟩ q, .i64 (wdF D (r2 D)).1, .i64 (wdF D (r3 D)).1, ints (manF D (wdF D) (r4 D)).1])) hAl2.symm) (And.intro ?_ (And.intro ⟨_, _, rfl, hAl2.symm, fun i hi => by rw [hAl2] at hi; exact (appL_row (enc := Blk.cells) hi)⟩ (And.intro trivial (trivial)))))))))
      all_goals repeat' (first | exact rfl | exact trivial | exact congrArg (fun n => some (AV.sl ⟨63, []⟩ n)) hAl2.symm | refine And.intro ?_ ?_)
    repeat (first | refine AWp.seq ?_ | refine AWp.block ?_ | refine AWp.skip ?_)
    refine AWp.region ?_
    intro _
    refine round_end ((k, ((bkF D (insR D)) t).2), (A ++ [((bkF D (insR D)) t).1])) ⟨(bkF_rdr (insR_rdr D)).stk t ht, by show (A ++ [((bkF D (insR D)) t).1]).length + k ≤ 255; rw [hAl2]; omega, by show k ≤ (smF D (r6 D)).1.toNat; omega, by rw [← hA]; exact List.append_assoc .., hT⟩ ?_ (by show k < k + 1; omega)
    refine And.intro ?_ (And.intro rfl (And.intro ?_ (And.intro rfl (And.intro ?_ (And.intro rfl (And.intro ?_ (And.intro ⟨_, _, rfl, rfl, fun i hi => rfl⟩ (And.intro trivial (trivial)))))))))
    all_goals repeat' (first | exact rfl | exact trivial | exact congrArg (fun z => some (AV.i64 z)) hw | refine And.intro ?_ ?_)
  have h1 : (bif decide ((smF D (r6 D)).1 - (k : Int) < (smF D (r6 D)).1) then !t.sh else false) = false := h1
  have hfin : eachF (bkF D (insR D)) k t = ([], t) := by
    rcases Nat.eq_zero_or_pos k with e | e
    · subst e; rfl
    · rw [decide_eq_true (show (smF D (r6 D)).1 - (k : Int) < (smF D (r6 D)).1 from by omega)] at h1
      exact eachF_stop (by simpa using h1)
  rw [hfin] at hA hT
  have hA : A = (eachF (bkF D (insR D)) (smF D (r6 D)).1.toNat ((smF D (r6 D)).2)).1 := (List.append_nil A).symm.trans hA
  have hT : t = (eachF (bkF D (insR D)) (smF D (r6 D)).1.toNat ((smF D (r6 D)).2)).2 := hT
  subst hA hT
  refine AWp.exit ?_
  refine AWp.freeze 63 (fun i => Blk.cells ((manF D (bkF D (insR D)) (r6 D)).1.getD i default)) rfl (fun i hi => rfl) ?_
  repeat (first | refine AWp.seq ?_ | refine AWp.block ?_ | refine AWp.skip ?_)
  refine AWp.region ?_
  intro _
  repeat (first | refine AWp.seq ?_ | refine AWp.block ?_ | refine AWp.skip ?_)
  refine AWp.cond (And.intro (fun h3 => ?_) (fun h3 => ?_))
  · have h3' : (scF2 D (insR D)).2.sh = true := h3
    have e := h5 h3'
    repeat (first | refine AWp.seq ?_ | refine AWp.block ?_ | refine AWp.skip ?_)
    refine AWp.region ?_
    intro _
    subst e
    refine AWp.ret ⟨Or.inl rfl, rfl, ?_⟩
    intro _
    rfl
  have h3' : (scF2 D (insR D)).2.sh = false := h3
  repeat (first | refine AWp.seq ?_ | refine AWp.block ?_ | refine AWp.skip ?_)
  refine AWp.region ?_
  intro _
  repeat (first | refine AWp.seq ?_ | refine AWp.block ?_ | refine AWp.skip ?_)
  refine AWp.cond (And.intro (fun h6 => ?_) (fun h6 => ?_))
  · have h6' : ((scF2 D (insR D)).2.p : Int) < (D.length : Int) := of_decide_eq_true h6
    have e := h4 h3' (by omega)
    repeat (first | refine AWp.seq ?_ | refine AWp.block ?_ | refine AWp.skip ?_)
    refine AWp.region ?_
    intro _
    subst e
    refine AWp.ret ⟨Or.inl rfl, rfl, ?_⟩
    intro _
    rfl
  have h6' : ¬ ((scF2 D (insR D)).2.p : Int) < (D.length : Int) := of_decide_eq_false h6
  have h6'' : ¬ (scF2 D (insR D)).2.p < D.length := by omega
  repeat (first | refine AWp.seq ?_ | refine AWp.block ?_ | refine AWp.skip ?_)
  refine AWp.region ?_
  refine CallX.pure (c_ScriptFault (scF2 D (insR D)).1 hok) rfl rfl rfl ?_
  intro _
  repeat (first | refine AWp.seq ?_ | refine AWp.block ?_ | refine AWp.skip ?_)
  refine AWp.region ?_
  intro _
  repeat (first | refine AWp.seq ?_ | refine AWp.block ?_ | refine AWp.skip ?_)
  refine AWp.cond (And.intro (fun h7 => ?_) (fun h7 => ?_))
  · have h7' : (scrF (scF2 D (insR D)).1 != 0) = true := h7
    have e := hE h3' h6'' (by simpa using h7')
    repeat (first | refine AWp.seq ?_ | refine AWp.block ?_ | refine AWp.skip ?_)
    refine AWp.region ?_
    intro _
    subst e
    refine AWp.ret ⟨Or.inl rfl, rfl, ?_⟩
    intro _
    rfl
  have h7' : (scrF (scF2 D (insR D)).1 != 0) = false := h7
  have e := h0 h3' h6'' (by simpa using h7')
  repeat (first | refine AWp.seq ?_ | refine AWp.block ?_ | refine AWp.skip ?_)
  refine AWp.region ?_
  intro _
  subst e
  refine AWp.ret ⟨Or.inl rfl, rfl, ?_⟩
  intro _
  rfl
end Go.Proofs.Ytnbgpgbbfjaomaa

/- Contracts of the law's sameInstr, sameBlock, sameScript at equal arguments, and of octets. Condition: what the slices may weigh. -/
namespace Go.Proofs.Ytnbgpgbbfjaomaa
open Go Go.Abs Go.RowKit Go.Abs.Gra

theorem c_sameRr (n : Nat) (g : Nat → Int) (hn : n ≤ maxLen) : ACallIs B.P 35 [.ro 1 n (fun i => intC (g i)), .ro 1 n (fun i => intC (g i))] (.bool true) := by
  refine ACallIs.enter B _ _ Try.func35 rfl rfl Try.ntmps35 Try.results35 rfl fun hreal => ?_
  clear hreal
  repeat (first | refine AWp.seq ?_ | refine AWp.block ?_ | refine AWp.skip ?_)
  refine AWp.region ?_
  intro _
  repeat (first | refine AWp.seq ?_ | refine AWp.block ?_ | refine AWp.skip ?_)
  refine AWp.region ?_
  intro _
  repeat (first | refine AWp.seq ?_ | refine AWp.block ?_ | refine AWp.skip ?_)
  refine AWp.cond (And.intro (fun h => ?_) (fun h => ?_))
  · exfalso
    have h : ((n : Int) != (n : Int)) = true := h
    simp at h
  repeat (first | refine AWp.seq ?_ | refine AWp.block ?_ | refine AWp.skip ?_)
  refine AWp.region ?_
  intro _
  repeat (first | refine AWp.seq ?_ | refine AWp.block ?_ | refine AWp.skip ?_)
  refine AWp.loop (fun k : Nat => ⟨[(0, .ro 1 n (fun i => intC (g i))), (1, .ro 1 n (fun i => intC (g i))), (5, .i64 k)], []⟩) (fun k => k ≤ n) (fun k => n - k) 0 (Nat.zero_le _) ?_ ?_
  · repeat' (first | exact rfl | exact trivial | refine And.intro ?_ ?_)
  intro k hk
  repeat (first | refine AWp.seq ?_ | refine AWp.block ?_ | refine AWp.skip ?_)
  refine AWp.region ?_
  intro _
  repeat (first | refine AWp.seq ?_ | refine AWp.block ?_ | refine AWp.skip ?_)
  refine AWp.cond (And.intro (fun h1 => ?_) (fun h1 => ?_))
  · have hk' : k < n := Int.ofNat_lt.1 (of_decide_eq_true h1)
    repeat (first | refine AWp.seq ?_ | refine AWp.block ?_ | refine AWp.skip ?_)
    refine AWp.draw mixed (by kernel_rfl) ?_
    repeat' (first | refine And.intro ?_ ?_)
    all_goals first | exact (fun _ => And.intro (Int.natCast_nonneg _) (Int.ofNat_lt.2 hk')) | skip
    intro _
    repeat (first | refine AWp.seq ?_ | refine AWp.block ?_ | refine AWp.skip ?_)
    refine AWp.cond (And.intro (fun h2 => ?_) (fun h2 => ?_))
    · exfalso
      have h2 : (g k != g k) = true := h2
      simp at h2
    repeat (first | refine AWp.seq ?_ | refine AWp.block ?_ | refine AWp.skip ?_)
    refine AWp.region ?_
    intro _
    exact round_end (k + 1) hk' (by repeat' (first | exact rfl | exact trivial | exact congrArg (fun z => some (AV.i64 z)) (wrap_succ hk' hn) | refine And.intro ?_ ?_)) (by omega)
  refine AWp.exit ?_
  repeat (first | refine AWp.seq ?_ | refine AWp.block ?_ | refine AWp.skip ?_)
  refine AWp.region ?_
  intro _
  refine AWp.ret ⟨Or.inl rfl, rfl, ?_⟩
  intro _
  rfl
theorem c_sameIs (l : List Int) (hl : l.length ≤ maxLen) : ACallIs B.P 35 [ints l, ints l] (.bool true) := c_sameRr l.length (fun i => l.getD i default) hl
theorem c_sameNilr : ACallIs B.P 35 [.val (.slice none 0 0), .val (.slice none 0 0)] (.bool true) := by
  refine ACallIs.enter B _ _ Try.func35 rfl rfl Try.ntmps35 Try.results35 rfl fun hreal => ?_
  clear hreal
  repeat (first | refine AWp.seq ?_ | refine AWp.block ?_ | refine AWp.skip ?_)
  refine AWp.region ?_
  intro _
  repeat (first | refine AWp.seq ?_ | refine AWp.block ?_ | refine AWp.skip ?_)
  refine AWp.region ?_
  intro _
  repeat (first | refine AWp.seq ?_ | refine AWp.block ?_ | refine AWp.skip ?_)
  refine AWp.cond (And.intro (fun h => ?_) (fun h => ?_))
  · cases h
  repeat (first | refine AWp.seq ?_ | refine AWp.block ?_ | refine AWp.skip ?_)
  refine AWp.region ?_
  intro _
  repeat (first | refine AWp.seq ?_ | refine AWp.block ?_ | refine AWp.skip ?_)
  refine AWp.loop (fun k : Nat => ⟨[(0, .val (.slice none 0 0)), (1, .val (.slice none 0 0)), (5, .i64 (0 : Nat))], []⟩) (fun k => True) (fun k => 0) 0 trivial ?_ ?_
  · repeat' (first | exact rfl | exact trivial | refine And.intro ?_ ?_)
  intro k hk
  repeat (first | refine AWp.seq ?_ | refine AWp.block ?_ | refine AWp.skip ?_)
  refine AWp.region ?_
  intro _
  repeat (first | refine AWp.seq ?_ | refine AWp.block ?_ | refine AWp.skip ?_)
  refine AWp.cond (And.intro (fun h1 => ?_) (fun h1 => ?_))
  · cases h1
  refine AWp.exit ?_
  repeat (first | refine AWp.seq ?_ | refine AWp.block ?_ | refine AWp.skip ?_)
  refine AWp.region ?_
  intro _
  refine AWp.ret ⟨Or.inl rfl, rfl, ?_⟩
  intro _
  rfl
theorem lok_len {α : Type} {by_ : Nat} {p : α → Prop} {l : List α} (h : LOk by_ p l) (hb : 0 < by_) : l.length ≤ maxLen := by
  have := h.1
  have : l.length * 1 ≤ l.length * by_ := Nat.mul_le_mul_left _ hb
  unfold maxLen; omega
set_option maxHeartbeats 1000000 in
theorem c_sameInstr (x : Ins) (hx : Ins.ok x) : ACallIs B.P 64 [x.av, x.av] (.bool true) := by
  have h1 := lok_len hx.2.1 (by decide)
  have h2 := lok_len hx.2.2 (by decide)
  refine ACallIs.enter B _ _ Try.func64 rfl rfl Try.ntmps64 Try.results64 rfl fun hreal => ?_
  clear hreal
  repeat (first | refine AWp.seq ?_ | refine AWp.block ?_ | refine AWp.skip ?_)
  refine AWp.region ?_
  intro _
  refine AWp.freezeObj 2 rfl rfl ?_
  refine AWp.freezeObj 3 rfl rfl ?_
  repeat (first | refine AWp.seq ?_ | refine AWp.block ?_ | refine AWp.skip ?_)
  refine AWp.region ?_
  repeat' refine And.intro ?_ ?_
  all_goals first | exact fun h => h | exact gT | exact gF | exact gN | skip
  intro _
  repeat (first | refine AWp.seq ?_ | refine AWp.block ?_ | refine AWp.skip ?_)
  refine AWp.cond (And.intro (fun h3 => ?_) (fun h3 => ?_))
  · exfalso
    simp at h3
  repeat (first | refine AWp.seq ?_ | refine AWp.block ?_ | refine AWp.skip ?_)
  refine AWp.region ?_
  intro _
  repeat (first | refine AWp.seq ?_ | refine AWp.block ?_ | refine AWp.skip ?_)
  refine AWp.loop (fun k : Nat => ⟨[(2, .ptr x.cells), (3, .ptr x.cells), (5, .i64 k)], []⟩) (fun k => k ≤ x.Operands.length) (fun k => x.Operands.length - k) 0 (Nat.zero_le _) ?_ ?_
  · repeat' (first | exact rfl | exact trivial | refine And.intro ?_ ?_)
  intro k hk
  repeat (first | refine AWp.seq ?_ | refine AWp.block ?_ | refine AWp.skip ?_)
  refine AWp.region ?_
  intro _
  repeat (first | refine AWp.seq ?_ | refine AWp.block ?_ | refine AWp.skip ?_)
  refine AWp.cond (And.intro (fun h4 => ?_) (fun h4 => ?_))
  · have hk' : k < x.Operands.length := Int.ofNat_lt.1 (of_decide_eq_true h4)
    repeat (first | refine AWp.seq ?_ | refine AWp.block ?_ | refine AWp.skip ?_)
    refine AWp.draw mixed (by kernel_rfl) ?_
    repeat' (first | refine And.intro ?_ ?_)
    all_goals first | exact (fun _ => And.intro (Int.natCast_nonneg _) (Int.ofNat_lt.2 hk')) | skip
    intro _
    repeat (first | refine AWp.seq ?_ | refine AWp.block ?_ | refine AWp.skip ?_)
    refine AWp.cond (And.intro (fun h5 => ?_) (fun h5 => ?_))
    · exfalso
      simp at h5
    repeat (first | refine AWp.seq ?_ | refine AWp.block ?_ | refine AWp.skip ?_)
    refine AWp.region ?_
    intro _
    exact round_end (k + 1) hk' (by repeat' (first | exact rfl | exact trivial | exact congrArg (fun z => some (AV.i64 z)) (wrap_succ hk' h1) | refine And.intro ?_ ?_)) (by omega)
  refine AWp.exit ?_
  repeat (first | refine AWp.seq ?_ | refine AWp.block ?_ | refine AWp.skip ?_)
  refine AWp.region ?_
  intro _
  repeat (first | refine AWp.seq ?_ | refine AWp.block ?_ | refine AWp.skip ?_)
  refine AWp.loop (fun k : Nat => ⟨[(2, .ptr x.cells), (3, .ptr x.cells), (6, .i64 k)], []⟩) (fun k => k ≤ x.Spoils.length) (fun k => x.Spoils.length - k) 0 (Nat.zero_le _) ?_ ?_
  · repeat' (first | exact rfl | exact trivial | refine And.intro ?_ ?_)
  intro k hk
  repeat (first | refine AWp.seq ?_ | refine AWp.block ?_ | refine AWp.skip ?_)
  refine AWp.region ?_
  intro _
  repeat (first | refine AWp.seq ?_ | refine AWp.block ?_ | refine AWp.skip ?_)
  refine AWp.cond (And.intro (fun h5 => ?_) (fun h5 => ?_))
  · have hk' : k < x.Spoils.length := Int.ofNat_lt.1 (of_decide_eq_true h5)
    repeat (first | refine AWp.seq ?_ | refine AWp.block ?_ | refine AWp.skip ?_)
    refine AWp.draw mixed (by kernel_rfl) ?_
    repeat' (first | refine And.intro ?_ ?_)
    all_goals first | exact (fun _ => And.intro (Int.natCast_nonneg _) (Int.ofNat_lt.2 hk')) | skip
    intro _
    repeat (first | refine AWp.seq ?_ | refine AWp.block ?_ | refine AWp.skip ?_)
    refine AWp.cond (And.intro (fun h6 => ?_) (fun h6 => ?_))
    · exfalso
      simp at h6
    repeat (first | refine AWp.seq ?_ | refine AWp.block ?_ | refine AWp.skip ?_)
    refine AWp.region ?_
    intro _
    exact round_end (k + 1) hk' (by repeat' (first | exact rfl | exact trivial | exact congrArg (fun z => some (AV.i64 z)) (wrap_succ hk' h2) | refine And.intro ?_ ?_)) (by omega)
  refine AWp.exit ?_
  repeat (first | refine AWp.seq ?_ | refine AWp.block ?_ | refine AWp.skip ?_)
  refine AWp.region ?_
  intro _
  refine AWp.ret ⟨Or.inl rfl, rfl, ?_⟩
  intro _
  rfl
set_option maxHeartbeats 1000000 in
theorem c_sameBlock (b : Blk) (hb : Blk.ok b) : ACallIs B.P 36 [b.av, b.av] (.bool true) := by
  have h0 := c_sameIs b.Params (lok_len hb.1 (by decide))
  have h1 := lok_len hb.2.1 (by decide)
  have h2 := lok_len hb.2.2 (by decide)
  refine ACallIs.enter B _ _ Try.func36 rfl rfl Try.ntmps36 Try.results36 rfl fun hreal => ?_
  clear hreal
  repeat (first | refine AWp.seq ?_ | refine AWp.block ?_ | refine AWp.skip ?_)
  refine AWp.region ?_
  intro _
  refine AWp.freezeObj 2 rfl rfl ?_
  refine AWp.freezeObj 3 rfl rfl ?_
  repeat (first | refine AWp.seq ?_ | refine AWp.block ?_ | refine AWp.skip ?_)
  refine AWp.region ?_
  refine CallX.pure h0 rfl rfl rfl ?_
  repeat' refine And.intro ?_ ?_
  all_goals first | exact fun h => h | exact gT | exact gF | exact gN | skip
  intro _
  repeat (first | refine AWp.seq ?_ | refine AWp.block ?_ | refine AWp.skip ?_)
  refine AWp.cond (And.intro (fun h3 => ?_) (fun h3 => ?_))
  · exfalso
    simp at h3
  repeat (first | refine AWp.seq ?_ | refine AWp.block ?_ | refine AWp.skip ?_)
  refine AWp.region ?_
  intro _
  repeat (first | refine AWp.seq ?_ | refine AWp.block ?_ | refine AWp.skip ?_)
  refine AWp.loop (fun k : Nat => ⟨[(2, .ptr b.cells), (3, .ptr b.cells), (5, .i64 k)], []⟩) (fun k => k ≤ b.Instrs.length) (fun k => b.Instrs.length - k) 0 (Nat.zero_le _) ?_ ?_
  · repeat' (first | exact rfl | exact trivial | refine And.intro ?_ ?_)
  intro k hk
  repeat (first | refine AWp.seq ?_ | refine AWp.block ?_ | refine AWp.skip ?_)
  refine AWp.region ?_
  intro _
  repeat (first | refine AWp.seq ?_ | refine AWp.block ?_ | refine AWp.skip ?_)
  refine AWp.cond (And.intro (fun h4 => ?_) (fun h4 => ?_))
  · have hk' : k < b.Instrs.length := Int.ofNat_lt.1 (of_decide_eq_true h4)
    have hs := c_sameInstr (b.Instrs.getD k default) (hb.2.1.2 _ (getD_mem hk'))
    repeat (first | refine AWp.seq ?_ | refine AWp.block ?_ | refine AWp.skip ?_)
    refine AWp.draw mixed (by kernel_rfl) ?_
    repeat' (first | refine And.intro ?_ ?_ | refine CallK.intro (fun _ => hs) ?_)
    all_goals first | exact (fun _ => And.intro (Int.natCast_nonneg _) (Int.ofNat_lt.2 hk')) | skip
    intro _
    repeat (first | refine AWp.seq ?_ | refine AWp.block ?_ | refine AWp.skip ?_)
    refine AWp.cond (And.intro (fun h5 => ?_) (fun h5 => ?_))
    · cases h5
    repeat (first | refine AWp.seq ?_ | refine AWp.block ?_ | refine AWp.skip ?_)
    refine AWp.region ?_
    intro _
    exact round_end (k + 1) hk' (by repeat' (first | exact rfl | exact trivial | exact congrArg (fun z => some (AV.i64 z)) (wrap_succ hk' h1) | refine And.intro ?_ ?_)) (by omega)
  refine AWp.exit ?_
  repeat (first | refine AWp.seq ?_ | refine AWp.block ?_ | refine AWp.skip ?_)
  refine AWp.region ?_
  intro _
  repeat (first | refine AWp.seq ?_ | refine AWp.block ?_ | refine AWp.skip ?_)
  refine AWp.loop (fun k : Nat => ⟨[(2, .ptr b.cells), (3, .ptr b.cells), (6, .i64 k)], []⟩) (fun k => k ≤ b.Edges.length) (fun k => b.Edges.length - k) 0 (Nat.zero_le _) ?_ ?_
  · repeat' (first | exact rfl | exact trivial | refine And.intro ?_ ?_)
  intro k hk
  repeat (first | refine AWp.seq ?_ | refine AWp.block ?_ | refine AWp.skip ?_)
  refine AWp.region ?_
  intro _
  repeat (first | refine AWp.seq ?_ | refine AWp.block ?_ | refine AWp.skip ?_)
  refine AWp.cond (And.intro (fun h5 => ?_) (fun h5 => ?_))
  · have hk' : k < b.Edges.length := Int.ofNat_lt.1 (of_decide_eq_true h5)
    have hs := c_sameIs (b.Edges.getD k default).Args (lok_len (hb.2.2.2 _ (getD_mem hk')).2 (by decide))
    repeat (first | refine AWp.seq ?_ | refine AWp.block ?_ | refine AWp.skip ?_)
    refine AWp.draw mixed (by kernel_rfl) ?_
    repeat' (first | refine And.intro ?_ ?_ | refine CallK.intro (fun _ => hs) ?_)
    all_goals first | exact fun h => h | exact gT | exact gF | exact gN | exact (fun _ => And.intro (Int.natCast_nonneg _) (Int.ofNat_lt.2 hk')) | skip
    intro _
    repeat (first | refine AWp.seq ?_ | refine AWp.block ?_ | refine AWp.skip ?_)
    refine AWp.cond (And.intro (fun h6 => ?_) (fun h6 => ?_))
    · exfalso
      simp at h6
    repeat (first | refine AWp.seq ?_ | refine AWp.block ?_ | refine AWp.skip ?_)
    refine AWp.region ?_
    intro _
    exact round_end (k + 1) hk' (by repeat' (first | exact rfl | exact trivial | exact congrArg (fun z => some (AV.i64 z)) (wrap_succ hk' h2) | refine And.intro ?_ ?_)) (by omega)
  refine AWp.exit ?_
  repeat (first | refine AWp.seq ?_ | refine AWp.block ?_ | refine AWp.skip ?_)
  refine AWp.region ?_
  intro _
  refine AWp.ret ⟨Or.inl rfl, rfl, ?_⟩
  intro _
  rfl
set_option maxHeartbeats 1000000 in
theorem c_sameScript (s : Scr) (hs : Scr.ok s) : ACallIs B.P 10 [s.av, s.av] (.bool true) := by
  have h0 := c_sameIs s.Junk (lok_len hs.2.2.2.2 (by decide))
  have h1 := c_sameIs s.Func.Values (lok_len hs.2.1.1 (by decide))
  have h2 := lok_len hs.2.1.2 (by decide)
  refine ACallIs.enter B _ _ Try.func10 rfl rfl Try.ntmps10 Try.results10 rfl fun hreal => ?_
  clear hreal
  repeat (first | refine AWp.seq ?_ | refine AWp.block ?_ | refine AWp.skip ?_)
  refine AWp.region ?_
  intro _
  refine AWp.freezeObj 2 rfl rfl ?_
  refine AWp.freezeObj 3 rfl rfl ?_
  repeat (first | refine AWp.seq ?_ | refine AWp.block ?_ | refine AWp.skip ?_)
  refine AWp.region ?_
  repeat' (first | refine And.intro ?_ ?_ | refine CallK.intro (fun _ => h0) ?_ | refine CallK.intro (fun _ => h1) ?_)
  all_goals first | exact fun h => h | exact gT | exact gF | exact gN | skip
  intro _
  repeat (first | refine AWp.seq ?_ | refine AWp.block ?_ | refine AWp.skip ?_)
  refine AWp.cond (And.intro (fun h3 => ?_) (fun h3 => ?_))
  · exfalso
    simp at h3
  repeat (first | refine AWp.seq ?_ | refine AWp.block ?_ | refine AWp.skip ?_)
  refine AWp.region ?_
  intro _
  repeat (first | refine AWp.seq ?_ | refine AWp.block ?_ | refine AWp.skip ?_)
  refine AWp.loop (fun k : Nat => ⟨[(2, .ptr s.cells), (3, .ptr s.cells), (5, .i64 k)], []⟩) (fun k => k ≤ s.Func.Blocks.length) (fun k => s.Func.Blocks.length - k) 0 (Nat.zero_le _) ?_ ?_
  · repeat' (first | exact rfl | exact trivial | refine And.intro ?_ ?_)
  intro k hk
  repeat (first | refine AWp.seq ?_ | refine AWp.block ?_ | refine AWp.skip ?_)
  refine AWp.region ?_
  intro _
  repeat (first | refine AWp.seq ?_ | refine AWp.block ?_ | refine AWp.skip ?_)
  refine AWp.cond (And.intro (fun h4 => ?_) (fun h4 => ?_))
  · have hk' : k < s.Func.Blocks.length := Int.ofNat_lt.1 (of_decide_eq_true h4)
    have hs := c_sameBlock (s.Func.Blocks.getD k default) (hs.2.1.2.2 _ (getD_mem hk'))
    repeat (first | refine AWp.seq ?_ | refine AWp.block ?_ | refine AWp.skip ?_)
    refine AWp.draw mixed (by kernel_rfl) ?_
    repeat' (first | refine And.intro ?_ ?_ | refine CallK.intro (fun _ => hs) ?_)
    all_goals first | exact (fun _ => And.intro (Int.natCast_nonneg _) (Int.ofNat_lt.2 hk')) | skip
    intro _
    repeat (first | refine AWp.seq ?_ | refine AWp.block ?_ | refine AWp.skip ?_)
    refine AWp.cond (And.intro (fun h5 => ?_) (fun h5 => ?_))
    · cases h5
    repeat (first | refine AWp.seq ?_ | refine AWp.block ?_ | refine AWp.skip ?_)
    refine AWp.region ?_
    intro _
    exact round_end (k + 1) hk' (by repeat' (first | exact rfl | exact trivial | exact congrArg (fun z => some (AV.i64 z)) (wrap_succ hk' h2) | refine And.intro ?_ ?_)) (by omega)
  refine AWp.exit ?_
  repeat (first | refine AWp.seq ?_ | refine AWp.block ?_ | refine AWp.skip ?_)
  refine AWp.region ?_
  intro _
  refine AWp.ret ⟨Or.inl rfl, rfl, ?_⟩
  intro _
  rfl
set_option maxHeartbeats 1000000 in
theorem c_sameScript0 : ACallIs B.P 10 [zeroS, zeroS] (.bool true) := by
  refine ACallIs.enter B _ _ Try.func10 rfl rfl Try.ntmps10 Try.results10 rfl fun hreal => ?_
  clear hreal
  repeat (first | refine AWp.seq ?_ | refine AWp.block ?_ | refine AWp.skip ?_)
  refine AWp.region ?_
  intro _
  refine AWp.freezeObj 2 rfl rfl ?_
  refine AWp.freezeObj 3 rfl rfl ?_
  repeat (first | refine AWp.seq ?_ | refine AWp.block ?_ | refine AWp.skip ?_)
  refine AWp.region ?_
  repeat' (first | refine And.intro ?_ ?_ | refine CallK.intro (fun _ => c_sameNilr) ?_)
  all_goals first | exact fun h => h | exact gT | exact gF | exact gN | skip
  intro _
  repeat (first | refine AWp.seq ?_ | refine AWp.block ?_ | refine AWp.skip ?_)
  refine AWp.cond (And.intro (fun h3 => ?_) (fun h3 => ?_))
  · exfalso
    simp at h3
  repeat (first | refine AWp.seq ?_ | refine AWp.block ?_ | refine AWp.skip ?_)
  refine AWp.region ?_
  intro _
  repeat (first | refine AWp.seq ?_ | refine AWp.block ?_ | refine AWp.skip ?_)
  refine AWp.loop (fun k : Nat => ⟨[(2, .ptr [.i64 0, .i64 0, .val (.slice none 0 0), .val (.slice none 0 0), .i64 0, .i64 0, .val (.slice none 0 0)]), (5, .i64 (0 : Nat))], []⟩) (fun k => True) (fun k => 0) 0 trivial ?_ ?_
  · repeat' (first | exact rfl | exact trivial | refine And.intro ?_ ?_)
  intro k hk
  repeat (first | refine AWp.seq ?_ | refine AWp.block ?_ | refine AWp.skip ?_)
  refine AWp.region ?_
  intro _
  repeat (first | refine AWp.seq ?_ | refine AWp.block ?_ | refine AWp.skip ?_)
  refine AWp.cond (And.intro (fun h1 => ?_) (fun h1 => ?_))
  · cases h1
  refine AWp.exit ?_
  repeat (first | refine AWp.seq ?_ | refine AWp.block ?_ | refine AWp.skip ?_)
  refine AWp.region ?_
  intro _
  refine AWp.ret ⟨Or.inl rfl, rfl, ?_⟩
  intro _
  rfl
theorem c_octets (L : List Int) (hL : L.length * 1 ≤ 140737488351232) : ACallIs B.P 8 [bytesV L] (bytesV L) := by
  refine ACallIs.enter B _ _ Try.func8 rfl rfl Try.ntmps8 Try.results8 rfl fun hreal => ?_
  clear hreal
  repeat (first | refine AWp.seq ?_ | refine AWp.block ?_ | refine AWp.skip ?_)
  refine AWp.region ?_
  intro _
  repeat (first | refine AWp.seq ?_ | refine AWp.block ?_ | refine AWp.skip ?_)
  refine AWp.region ?_
  refine And.intro (fun i hi => rfl) (And.intro (by omega) ?_)
  intro _
  refine AWp.freeze 4 (fun i => byC (L.getD i default)) rfl (fun i hi => rfl) ?_
  refine AWp.ret ⟨Or.inl rfl, rfl, ?_⟩
  intro _
  rfl
theorem opens_u8 {P : Program} {t : TypeId} (ht : P.underlying t = some (.int .u8)) : OpensC P t fun avs => ∃ n : Int, avs = byC n ∧ (0 ≤ n ∧ n ≤ 255) := by
  intro H enc w spare held fuel cs x h hwt
  obtain ⟨n, rfl, _, hw⟩ := DataW.trod_int ht h
  refine ⟨_, ⟨n, rfl, ?_⟩, rfl, fun j x hx => ?_⟩
  · simp [Lit.wf, IntKind.min, IntKind.max, IntKind.signed, IntKind.bits] at hw; omega
  · cases j with
    | zero => simp at hx; subst hx; exact .val _ _
    | succ j => simp at hx
theorem o_u8 : OpensC Try.prog 5 fun avs => ∃ n : Int, avs = byC n ∧ (0 ≤ n ∧ n ≤ 255) := opens_u8 (by kernel_rfl)
theorem o_bytes : OpensC Try.prog 22 (SL 1 1 byC (fun n => 0 ≤ n ∧ n ≤ 255)) :=
  opens_slice (sz := 1) Try.underlying22 (by kernel_rfl) (by decide) (fun _ => rfl) (by kernel_rfl) (o_u8.mono fun avs ⟨n, h, hw⟩ => ⟨n, h, hw⟩)
end Go.Proofs.Ytnbgpgbbfjaomaa

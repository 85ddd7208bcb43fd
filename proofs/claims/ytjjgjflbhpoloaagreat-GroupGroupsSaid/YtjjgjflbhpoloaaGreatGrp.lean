/- Contracts of group.Groups and of the document's GroupsOf, of what they call, and of slices.SortFunc at spans. Condition: rows that may be. -/
import Derived.Test.YtjjgjflbhpoloaaGreatLsp
import Derived.Test.YtjjgjflbhpoloaaGreatData
import Derived.Shelf.SlSortCmp.InsertionK
import Derived.Test.YtjjgjflbhpoloaaGreatTab
import Derived.WalkKit
import Derived.Shelf.Abstract
import Derived.Shelf.SlSortCmp.NoneTotal
import Derived.Shelf.SlicesG.Cmp
set_option linter.unusedVariables false
set_option linter.unusedSimpArgs false
namespace Go.Proofs.YtjjgjflbhpoloaaGreat
open Go Go.Abs Go.RowKit Go.Abs.Gra
set_option maxRecDepth 20000 in
set_option maxHeartbeats 16000000 in
theorem m_Spans (f : Fun) (m : Mch) (hok : Fun.ok f) {d : Nat → Int} (h : TrOk f d) (hC : Chkd f) (hc0 : chkF f m = 0) (h0 : flwF f m = 0) : ACallM B.P 7 ⟨[f.av, m.av], [], .tup [.sl ⟨35, []⟩ f.Values.length, .i64 0], [(35, rowsS f.Values.length 70 (fun w => spL f (w : Int) f.Blocks.length)), (70, famS f.Values.length (fun w => spL f (w : Int) f.Blocks.length))]⟩ := by
 have hz5 := hC.e.siz
 have hvl := hz5.values
 have hvm : f.Values.length ≤ maxLen := by unfold maxLen; omega
 have hbl := hz5.blocks
 have hbm : f.Blocks.length ≤ maxLen := by unfold maxLen; omega
 obtain ⟨kk, hk⟩ : ∃ k, k = nW f.Values.length := ⟨_, rfl⟩
 obtain ⟨ho1, ho2⟩ := ord_all2 h.o
 have hcm := m_compute f hC hok hk (ordF (scF f) f.Blocks.length) ho1 ho2
 have hsl : (startsF f.Blocks).length = f.Blocks.length + 1 := startsF_len _
 refine ACallM.enter B _ _ Tryz.func7 rfl rfl Tryz.ntmps7 Tryz.results7 rfl ?_ fun _ => ?_
 ·refine zi ?_ (zi ?_ ?_)
  all_goals repeat' (first|exact rfl|exact zt|apply zi)
 repeat (first|apply zq|apply zb|apply zk)
 apply zr;intro _
 refine AWp.freezeObj 2 rfl rfl ?_
 refine AWp.freezeObj 3 rfl rfl ?_
 repeat (first|apply zq|apply zb|apply zk)
 apply zr
 refine CallX.pure (c_Dominators f m hok h h0) rfl rfl rfl ?_
 intro _
 repeat (first|apply zq|apply zb|apply zk)
 apply zr;intro _
 repeat (first|apply zq|apply zb|apply zk)
 apply AWp.cond;apply zi<;>intro h1
 ·cases h1
 refine AWp.freezeObj 6 rfl rfl ?_
 repeat (first|apply zq|apply zb|apply zk)
 apply zr
 refine CallX.lend hcm [(11, 24), (60, 60), (62, 62), (61, 61), (63, 63)] rfl zt rfl ?_
 intro _
 refine AWp.freezeO 62 (stW f.Blocks.length kk (nedA f)) ⟨_, _, rfl, fun ix hD => ⟨hD, _, _, rfl, rfl, fun i hi => rfl⟩⟩ (fun ix hD => hD) (fun ix hD => trivial) ?_
 refine AWp.freezeO 63 (stW f.Blocks.length kk (behA f)) ⟨_, _, rfl, fun ix hD => ⟨hD, _, _, rfl, rfl, fun i hi => rfl⟩⟩ (fun ix hD => hD) (fun ix hD => trivial) ?_
 refine AWp.via some ⟨[(2, .ptr f.cells), (8, .obj 24 0)], [(24, .cells (f.cells ++ [.sl 60 f.Blocks.length, .sl 61 f.Blocks.length])), (60, .row 82 1 f.Blocks.length (fun b => [bitV kk (nedA f b)])), (61, .row 82 1 f.Blocks.length (fun b => [bitV kk (behA f b)]))]⟩ ⟨?_, ?_, fun a b c _ _ ha hb => Option.some.inj (ha.trans hb.symm), fun a _ _ => rfl⟩ ?_
 ·repeat' (first|exact rfl|exact zt|apply zi)
 ·refine zi (zi ⟨_, ⟨_, rfl, rfl, zt⟩, rfl⟩ ?_) (zi (zi ⟨_, ⟨_, rfl, rfl, zt⟩, Or.inr ⟨_, rfl, fun i hi => zi rfl rfl⟩⟩ zt) (zi (zi ⟨_, ⟨_, rfl, rfl, zt⟩, Or.inr ⟨_, rfl, fun i hi => zi rfl rfl⟩⟩ zt) zt))
  all_goals repeat' (first|exact rfl|exact zt|apply zi)
 refine AWp.freeze 60 (fun b => [bitV kk (nedA f b)]) rfl (fun i hi => rfl) ?_
 refine AWp.freeze 61 (fun b => [bitV kk (behA f b)]) rfl (fun i hi => rfl) ?_
 refine AWp.freezeObj 24 rfl rfl ?_
 repeat (first|apply zq|apply zb|apply zk)
 apply zr
 refine CallX.pure (c_Starts f (by omega)) rfl rfl rfl ?_
 intro _
 repeat (first|apply zq|apply zb|apply zk)
 apply zr
 refine zi rfl (zi (Int.natCast_nonneg _) (zi (by simp only [Int.toNat_natCast]; omega) ?_))
 intro _
 refine AWp.via (newρ 70) ⟨[(2, .ptr f.cells), (8, .ptr (ndC f kk)), (9, ints (startsF f.Blocks)), (10, .sl 35 f.Values.length)], [(35, rowsS f.Values.length 70 (fun _ => [])), (70, famS f.Values.length (fun _ => []))]⟩ ?_ ?_
 ·refine ⟨?_, ?_, newρ_inj 70 _, newρ_old (by decide) _⟩
  ·repeat' (first|exact rfl|exact zt|apply zi)
  ·exact zi (zi ⟨_, ⟨_, rfl, rfl, zt⟩, Or.inr ⟨_, rfl, fun i hi => rfl⟩⟩ (fun i hi => zi ⟨i, hi, rfl⟩ zt)) (zi (fun ix hD => zi ⟨_, _, _, rfl⟩ zt) zt)
 repeat (first|apply zq|apply zb|apply zk)
 apply zr;intro _
 repeat (first|apply zq|apply zb|apply zk)
 refine AWp.loop (fun b : Nat => ⟨[(2, .ptr f.cells), (8, .ptr (ndC f kk)), (9, ints (startsF f.Blocks)), (10, .sl 35 f.Values.length), (38, .i64 f.Blocks.length), (39, .i64 b)], [(35, rowsS f.Values.length 70 (fun w => slK f b 0 w)), (70, famS f.Values.length (fun w => slK f b 0 w))]⟩) (fun b => b ≤ f.Blocks.length) (fun b => f.Blocks.length - b) 0 (Nat.zero_le _) ?_ ?_
 ·refine zi ?_ (zi ⟨_, _, rfl, rfl, fun i hi => congrArg (fun l : List (Int × Int) => [AV.sl ⟨70, [i]⟩ l.length]) (slK_zero)⟩ (zi (fun i hi => zi ⟨i, hi, rfl⟩ zt) (zi ⟨_, _, rfl, fun z hz => ⟨hz, rowP_sub slK_zero⟩⟩ (zi (fun z hz => trivial) zt))))
  all_goals repeat' (first|exact rfl|exact zt|apply zi)
 intro b hb0
 repeat (first|apply zq|apply zb|apply zk)
 apply zr;intro _
 repeat (first|apply zq|apply zb|apply zk)
 apply AWp.cond;apply zi<;>intro h1
 ·have hb : b < f.Blocks.length := zd h1
  have hst : ((startsF f.Blocks).getD b default) = startF f.Blocks b := startsF_get (by omega)
  obtain ⟨hs0, hs1⟩ := startF_bd hC b (by omega)
  repeat (first|apply zq|apply zb|apply zk)
  apply zr;intro _
  repeat (first|apply zq|apply zb|apply zk)
  apply zr;intro _
  repeat (first|apply zq|apply zb|apply zk)
  refine AWp.loop (fun v : Nat => ⟨[(2, .ptr f.cells), (8, .ptr (ndC f kk)), (9, ints (startsF f.Blocks)), (10, .sl 35 f.Values.length), (38, .i64 f.Blocks.length), (39, .i64 b), (11, .i64 b), (44, .i64 f.Values.length), (45, .i64 v)], [(35, rowsS f.Values.length 70 (fun w => slK f b v w)), (70, famS f.Values.length (fun w => slK f b v w))]⟩) (fun v => v ≤ f.Values.length) (fun v => f.Values.length - v) 0 (Nat.zero_le _) ?_ ?_
  ·refine zi ?_ (zi ⟨_, _, rfl, rfl, zg⟩ (zi (fun i hi => zi ⟨i, hi, rfl⟩ zt) (zi ⟨_, _, rfl, fun z hz => ⟨hz, _, _, rfl, rfl, fun i hi => rfl⟩⟩ (zi (fun z hz => trivial) zt))))
   all_goals repeat' (first|exact rfl|exact zt|apply zi)
  intro v hv0
  repeat (first|apply zq|apply zb|apply zk)
  apply zr;intro _
  repeat (first|apply zq|apply zb|apply zk)
  apply AWp.cond;apply zi<;>intro h2
  ·have hv : v < f.Values.length := zd h2
   obtain ⟨hR, hG, hN⟩ := sgK_of hc0 hC hb hv ((startsF f.Blocks).getD b default)
   have hI := spI_of hc0 hC hv b (by omega)
   have hIl : (spL f (v : Int) b).length ≤ 16 := by have := hI.len; omega
   have hspan := c_span f hC hok hk b v hb hv ((startsF f.Blocks).getD b default) (by rw [hst]; exact hs0) (by rw [hst]; omega)
   refine AWp.skip ?_
   refine AWp.seq ?_
   refine AWp.mono (Q := fun e t => e = .normal ∧ ∃ ρ, Via ρ ⟨[(2, .ptr f.cells), (8, .ptr (ndC f kk)), (9, ints (startsF f.Blocks)), (10, .sl 35 f.Values.length), (38, .i64 f.Blocks.length), (39, .i64 b), (11, .i64 b), (44, .i64 f.Values.length), (45, .i64 v)], [(35, rowsS f.Values.length 70 (fun w => slK f b (v + 1) w)), (70, famS f.Values.length (fun w => slK f b (v + 1) w))]⟩ t) ?_ ?_
   ·repeat (first|apply zq|apply zb|apply zk)
    apply zr;intro _
    repeat (first|apply zq|apply zb|apply zk)
    apply zr
    repeat' (first|exact zt|apply zi|refine CallX.pure hspan rfl rfl rfl ?_|fail)
    all_goals first|exact fun _ => nn ((by omega))|skip
    intro _
    refine AWp.freezeObj 13 rfl rfl ?_
    repeat (first|apply zq|apply zb|apply zk)
    apply zr;intro _
    repeat (first|apply zq|apply zb|apply zk)
    apply AWp.cond;apply zi<;>intro h3
    ·have h3 : (sqE (blkA f b) (v : Int) ((startsF f.Blocks).getD b default) (nedA f b v) (behA f b v)).2.2 = false := by
      have h3 : (!(sqE (blkA f b) (v : Int) ((startsF f.Blocks).getD b default) (nedA f b v) (behA f b v)).2.2) = true := h3
      simpa using h3
     have hno : ¬ 0 ≤ (sgF f (v : Int) b).1 := by
      rcases hR with ⟨q, _⟩ | ⟨_, q⟩
      ·rw [h3] at q; cases q
      ·omega
     have hsame : spL f (v : Int) (b + 1) = spL f (v : Int) b := if_neg hno
     apply ze
     refine zi rfl (Exists.intro some ⟨?_, ?_, fun a b c _ _ ha hb => Option.some.inj (ha.trans hb.symm), fun a _ _ => rfl⟩)
     ·repeat' (first|exact rfl|exact zt|apply zi)
     ·exact zi (zi ⟨_, ⟨_, rfl, rfl, zt⟩, Or.inl ⟨_, rfl, fun i hi => congrArg (fun l : List (Int × Int) => [AV.sl ⟨70, [i]⟩ l.length]) (slK_same hsame).symm⟩⟩ (fun i hi => zi ⟨i, hi, rfl⟩ zt)) (zi (fun ix hD => zi ⟨_, ⟨_, rfl, rfl, hD⟩, rowP_via (slK_same hsame)⟩ zt) zt)
    have h3 : (sqE (blkA f b) (v : Int) ((startsF f.Blocks).getD b default) (nedA f b v) (behA f b v)).2.2 = true := by
     have h3 : (!(sqE (blkA f b) (v : Int) ((startsF f.Blocks).getD b default) (nedA f b v) (behA f b v)).2.2) = false := h3
     simpa using h3
    refine AWp.skip ?_
    have hup : spL f (v : Int) (b + 1) = mgL (spL f (v : Int) b) ((sqE (blkA f b) (v : Int) ((startsF f.Blocks).getD b default) (nedA f b v) (behA f b v)).1, (sqE (blkA f b) (v : Int) ((startsF f.Blocks).getD b default) (nedA f b v) (behA f b v)).2.1) := by
     rcases hR with ⟨_, q1, _, q2, q3⟩ | ⟨q, _⟩
     ·rw [q2, q3, hst]; exact if_pos q1
     ·rw [h3] at q; cases q
    obtain ⟨r, hrE, hrN⟩ : ∃ r : Nat → List AV, r v = [.sl 71 (spL f (v : Int) b).length] ∧ ∀ i, i ≠ v → r i = [.sl ⟨70, [i]⟩ (slK f b v i).length] := ⟨(fun i => if i = v then [.sl 71 (spL f (v : Int) b).length] else [.sl ⟨70, [i]⟩ (slK f b v i).length]), if_pos rfl, fun i h => if_neg h⟩
    refine AWp.via (takeρ 71 70 v) ⟨[(2, .ptr f.cells), (8, .ptr (ndC f kk)), (9, ints (startsF f.Blocks)), (10, .sl 35 f.Values.length), (38, .i64 f.Blocks.length), (39, .i64 b), (11, .i64 b), (44, .i64 f.Values.length), (45, .i64 v), (12, .i64 v), (13, .ptr [.i64 (sqE (blkA f b) (v : Int) ((startsF f.Blocks).getD b default) (nedA f b v) (behA f b v)).1, .i64 (sqE (blkA f b) (v : Int) ((startsF f.Blocks).getD b default) (nedA f b v) (behA f b v)).2.1])], [(35, .rows 66 1 f.Values.length r), (70, .fam (fun ix => inD f.Values.length ix ∧ ix ≠ [v]) (fun ix => rowP (slK f b v (ix.headD 0)))), (71, rowP (spL f (v : Int) b))]⟩ ?_ ?_
    ·refine ⟨?_, ?_, takeρ_inj (fun ix h => h) (fun h => h.2 rfl), takeρ_old (by decide) _⟩
     ·repeat' (first|exact rfl|exact zt|apply zi)
     ·refine zi (zi ⟨_, ⟨_, rfl, rfl, zt⟩, Or.inl ⟨_, rfl, fun i hi => ?_⟩⟩ (fun i hi => ?_)) (zi (fun ix hD => zi ⟨_, ⟨_, rfl, rfl, hD.1⟩, Or.inl ⟨_, rfl, zg⟩⟩ zt) (zi (zi ⟨_, ⟨_, rfl, rfl, ⟨_, hv, rfl⟩⟩, rowP_via (slK_at (f := f) (b := b) (v := v)).symm⟩ zt) zt))
      ·by_cases e : i = v
       ·subst e; rw [hrE]
        show [AV.sl ⟨70, [i]⟩ (slK f b i i).length] = _
        rw [slK_at]; rfl
       ·rw [hrN i e]; rfl
      ·by_cases e : i = v
       ·subst e; rw [hrE]; exact zi rfl zt
       ·rw [hrN i e]; exact zi ⟨⟨i, hi, rfl⟩, fun h => e (by injection h)⟩ zt
    have hrE' : r ((v : Int)).toNat = [.sl 71 (spL f (v : Int) b).length] := hrE
    repeat (first|apply zq|apply zb|apply zk)
    apply zr
    refine zi (fun _ => nn hv) ?_
    refine zi (fun _ => hv) ?_
    rw [hrE']
    intro _
    have hw : IntKind.i64.wrap (((spL f (v : Int) b).length : Int) - 1) = ((spL f (v : Int) b).length : Int) - 1 := wrap_in (by omega) (by omega)
    have hg : (decide (IntKind.i64.wrap (((spL f (v : Int) b).length : Int) - 1) ≥ 0) == true) = true → 0 ≤ IntKind.i64.wrap (((spL f (v : Int) b).length : Int) - 1) ∧ IntKind.i64.wrap (((spL f (v : Int) b).length : Int) - 1) < (spL f (v : Int) b).length := fun hh => by
     rw [hw] at hh ⊢
     have hh : ((spL f (v : Int) b).length : Int) - 1 ≥ 0 := by simpa using hh
     omega
    have hg2 : (decide (IntKind.i64.wrap (((spL f (v : Int) b).length : Int) - 1) ≥ 0) == true) = true → (IntKind.i64.wrap (((spL f (v : Int) b).length : Int) - 1)).toNat < (spL f (v : Int) b).length := fun hh => by
     have := hg hh
     omega
    repeat (first|apply zq|apply zb|apply zk)
    apply zr;intro _
    repeat (first|apply zq|apply zb|apply zk)
    refine AWp.quietU (.q 0 [] (.q 1 [] (.q 2 [] (.q 3 [] (.q 4 [] (.q 5 [71] (.q 6 [71] (.q 7 [71] (.q 8 [] (.q 9 [] (.q 10 [] (.q 11 [] .fin)))))))))))) [(0, []), (1, []), (2, []), (3, []), (4, []), (5, [71]), (6, [71]), (7, [71]), (8, []), (9, []), (10, []), (11, [])] mixed (by kernel_rfl) ?_
    repeat' (first|exact zt|apply zi|fail)
    all_goals first|exact fun h => h|exact hg|exact hg2|exact gT|exact gF|exact gN|exact gA|skip
    intro _
    repeat (first|apply zq|apply zb|apply zk)
    apply AWp.cond;apply zi<;>intro h4
    ·have h4 : (bif decide (IntKind.i64.wrap (((spL f (v : Int) b).length : Int) - 1) ≥ 0) then (((spL f (v : Int) b).getD (IntKind.i64.wrap (((spL f (v : Int) b).length : Int) - 1)).toNat default).2 == (sqE (blkA f b) (v : Int) ((startsF f.Blocks).getD b default) (nedA f b v) (behA f b v)).1) else false) = true := h4
     have hp : 0 < (spL f (v : Int) b).length := Nat.pos_of_ne_zero fun e => by
      rw [hw, e] at h4; cases h4
     have hidx : (IntKind.i64.wrap (((spL f (v : Int) b).length : Int) - 1)).toNat = (spL f (v : Int) b).length - 1 := by rw [hw]; omega
     have hq : ((spL f (v : Int) b).getD ((spL f (v : Int) b).length - 1) default).2 = (sqE (blkA f b) (v : Int) ((startsF f.Blocks).getD b default) (nedA f b v) (behA f b v)).1 := by
      rw [hidx, decide_eq_true (by rw [hw]; omega)] at h4
      have h4 : (((spL f (v : Int) b).getD ((spL f (v : Int) b).length - 1) default).2 == (sqE (blkA f b) (v : Int) ((startsF f.Blocks).getD b default) (nedA f b v) (behA f b v)).1) = true := h4
      simpa using h4
     have hnew : spL f (v : Int) (b + 1) = setT (spL f (v : Int) b) (sqE (blkA f b) (v : Int) ((startsF f.Blocks).getD b default) (nedA f b v) (behA f b v)).2.1 := by rw [hup, mgL_mrg (last_of hp) hq, setT_mrg (last_of hp)]
     repeat (first|apply zq|apply zb|apply zk)
     apply zr
     repeat' (first|exact zt|apply zi|fail)
     all_goals first|exact fun _ => hg (by rw [hw, decide_eq_true (by omega)]; rfl)|exact hg2 (by rw [hw, decide_eq_true (by omega)]; rfl)|exact fun _ => hg2 (by rw [hw, decide_eq_true (by omega)]; rfl)|skip
     intro _
     apply ze
     refine zi rfl (Exists.intro (putρ 70 v 71) ⟨?_, ?_, putρ_inj (fun h => h), putρ_old (by decide) _⟩)
     ·repeat' (first|exact rfl|exact zt|apply zi)
     ·refine zi (zi ⟨_, ⟨_, rfl, rfl, zt⟩, Or.inl ⟨_, rfl, fun i hi => ?_⟩⟩ (fun i hi => zi ⟨i, hi, rfl⟩ zt)) (zi (fun ix hD => zi ?_ zt) zt)
      ·by_cases e : i = v
       ·subst e
        rw [hrE]
        show _ = [AV.rn (putρ 70 i 71) (.sl ⟨70, [i]⟩ (slK f b (i + 1) i).length)]
        simp only [AV.rn, putρ_at]
        rw [slK_up, hnew, setT_len]; rfl
       ·rw [hrN i e]
        show _ = [AV.rn (putρ 70 v 71) (.sl ⟨70, [i]⟩ (slK f b (v + 1) i).length)]
        simp only [AV.rn, putρ_ne e, slK_ne e]
      ·obtain ⟨i, hi, rfl⟩ := hD
       by_cases e : i = v
       ·subst e
        unfold viaO
        rw [putρ_at]
        show ∃ o0, _ ∧ via1 _ o0 (rowP (slK f b (i + 1) i))
        rw [slK_up, hnew]
        refine ⟨_, ⟨_, rfl, rfl, zt⟩, Or.inl ⟨_, congrArg (fun n => HO.row 63 2 n _) setT_len.symm, fun j hj => ?_⟩⟩
        rw [setT_len] at hj
        refine Eq.trans ?_ (setT_row hj).symm
        show (if j = (IntKind.i64.wrap (((spL f (i : Int) b).length : Int) - 1)).toNat then _ else _) = _
        rw [hidx]
        by_cases e2 : j = (spL f (i : Int) b).length - 1
        ·rw [if_pos e2, if_pos e2]; rfl
        ·rw [if_neg e2, if_neg e2]
       ·unfold viaO
        rw [putρ_ne e]
        show ∃ o0, _ ∧ via1 _ o0 (rowP (slK f b (v + 1) i))
        rw [slK_ne e]
        exact ⟨_, ⟨_, rfl, rfl, ⟨⟨i, hi, rfl⟩, fun h => e (by injection h)⟩⟩, Or.inl ⟨_, rfl, zg⟩⟩
    ·have h4 : (bif decide (IntKind.i64.wrap (((spL f (v : Int) b).length : Int) - 1) ≥ 0) then (((spL f (v : Int) b).getD (IntKind.i64.wrap (((spL f (v : Int) b).length : Int) - 1)).toNat default).2 == (sqE (blkA f b) (v : Int) ((startsF f.Blocks).getD b default) (nedA f b v) (behA f b v)).1) else false) = false := h4
     have hnew : spL f (v : Int) (b + 1) = (spL f (v : Int) b) ++ [((sqE (blkA f b) (v : Int) ((startsF f.Blocks).getD b default) (nedA f b v) (behA f b v)).1, (sqE (blkA f b) (v : Int) ((startsF f.Blocks).getD b default) (nedA f b v) (behA f b v)).2.1)] := by
      rw [hup]
      refine mgL_app fun q hq hqe => ?_
      have hp : 0 < (spL f (v : Int) b).length := Nat.pos_of_ne_zero fun e => by
       rw [List.length_eq_zero_iff.1 e] at hq; cases hq
      have hidx : (IntKind.i64.wrap (((spL f (v : Int) b).length : Int) - 1)).toNat = (spL f (v : Int) b).length - 1 := by rw [hw]; omega
      rw [last_of hp] at hq
      injection hq with hq
      rw [hidx, decide_eq_true (by rw [hw]; omega)] at h4
      have h4 : (((spL f (v : Int) b).getD ((spL f (v : Int) b).length - 1) default).2 == (sqE (blkA f b) (v : Int) ((startsF f.Blocks).getD b default) (nedA f b v) (behA f b v)).1) = false := h4
      rw [hq] at h4
      have hqe : q.2 = (sqE (blkA f b) (v : Int) ((startsF f.Blocks).getD b default) (nedA f b v) (behA f b v)).1 := hqe
      simp [hqe] at h4
     refine AWp.skip ?_
     repeat (first|apply zq|apply zb|apply zk)
     apply zr
     repeat' (first|exact zt|apply zi|fail)
     all_goals first|exact fun _ => nn hv|exact hv|exact Nat.le_refl _|exact rfl|exact fun _ _ => rfl|(intro j hj; obtain rfl : j = 0 := (by omega); exact rfl)|omega|skip
     intro _
     refine zi rfl (Exists.intro (putρ 70 v 91) ⟨?_, ?_, putρ_inj (fun h => h), putρ_old (by decide) _⟩)
     ·repeat' (first|exact rfl|exact zt|apply zi)
     ·refine zi (zi ⟨_, ⟨_, rfl, rfl, zt⟩, Or.inl ⟨_, rfl, fun i hi => ?_⟩⟩ (fun i hi => zi ⟨i, hi, rfl⟩ zt)) (zi (fun ix hD => zi ?_ zt) zt)
      ·by_cases e : i = v
       ·subst e
        simp only [Int.toNat_natCast, if_pos, hrE]
        show [AV.sl 91 ((spL f (i : Int) b).length + 1)] = [AV.rn (putρ 70 i 91) (.sl ⟨70, [i]⟩ (slK f b (i + 1) i).length)]
        simp only [AV.rn, putρ_at]
        rw [slK_up, hnew, List.length_append]; rfl
       ·simp only [Int.toNat_natCast, if_neg e, hrN i e]
        show [AV.sl ⟨70, [i]⟩ (slK f b v i).length] = [AV.rn (putρ 70 v 91) (.sl ⟨70, [i]⟩ (slK f b (v + 1) i).length)]
        simp only [AV.rn, putρ_ne e, slK_ne e]
      ·obtain ⟨i, hi, rfl⟩ := hD
       by_cases e : i = v
       ·subst e
        unfold viaO
        rw [putρ_at]
        show ∃ o0, _ ∧ via1 _ o0 (rowP (slK f b (i + 1) i))
        rw [slK_up, hnew]
        refine ⟨_, ⟨_, rfl, rfl, zt⟩, Or.inl ⟨_, congrArg (fun n => HO.row 63 2 n _) (by rw [List.length_append]; rfl), fun j hj => ?_⟩⟩
        refine Eq.trans ?_ (snocP_row hj).symm
        by_cases e2 : j < (spL f (i : Int) b).length
        ·exact Eq.trans (if_pos e2) (if_pos e2).symm
        ·have e3 : j - (spL f (i : Int) b).length = 0 := by rw [List.length_append] at hj; simp at hj; omega
         refine Eq.trans (if_neg e2) (Eq.trans ?_ (if_neg e2).symm)
         show ([spC ((sqE (blkA f b) (i : Int) ((startsF f.Blocks).getD b default) (nedA f b i) (behA f b i)).1, (sqE (blkA f b) (i : Int) ((startsF f.Blocks).getD b default) (nedA f b i) (behA f b i)).2.1)].getD (j - (spL f (i : Int) b).length) [] : List AV) = _
         rw [e3]; rfl
       ·unfold viaO
        rw [putρ_ne e]
        show ∃ o0, _ ∧ via1 _ o0 (rowP (slK f b (v + 1) i))
        rw [slK_ne e]
        exact ⟨_, ⟨_, rfl, rfl, ⟨⟨i, hi, rfl⟩, fun h => e (by injection h)⟩⟩, Or.inl ⟨_, rfl, zg⟩⟩
   rintro _ _ ⟨rfl, ρ, hs⟩
   refine AWp.via ρ _ hs ?_
   repeat (first|apply zq|apply zb|apply zk)
   apply zr;intro _
   refine round_end (v + 1) hv ?_ (by omega)
   refine zi ?_ (zi ⟨_, _, rfl, rfl, zg⟩ (zi (fun i hi => zi ⟨i, hi, rfl⟩ zt) (zi ⟨_, _, rfl, fun z hz => ⟨hz, _, _, rfl, rfl, fun i hi => rfl⟩⟩ (zi (fun z hz => trivial) zt))))
   all_goals repeat' (first|exact rfl|exact zt|exact zw hv hvm|apply zi)
  have hv3 : ¬ (v : Int) < f.Values.length := of_decide_eq_false h2
  obtain rfl : v = f.Values.length := by omega
  apply ze
  repeat (first|apply zq|apply zb|apply zk)
  apply zr;intro _
  refine round_end (b + 1) hb ?_ (by omega)
  refine zi ?_ (zi ⟨_, _, rfl, rfl, fun i hi => congrArg (fun l : List (Int × Int) => [AV.sl ⟨70, [i]⟩ l.length]) (slK_next hi)⟩ (zi (fun i hi => zi ⟨i, hi, rfl⟩ zt) (zi ⟨_, _, rfl, fun z hz => ⟨hz, rowP_sub (slK_next (inD_lt hz))⟩⟩ (zi (fun z hz => trivial) zt))))
  all_goals repeat' (first|exact rfl|exact zt|exact zw hb hbm|apply zi)
 have hb3 : ¬ (b : Int) < f.Blocks.length := of_decide_eq_false h1
 obtain rfl : b = f.Blocks.length := by omega
 apply ze
 repeat (first|apply zq|apply zb|apply zk)
 apply zr;intro _
 refine AWp.ret ⟨Or.inl rfl, ?_⟩
 intro _
 refine zi rfl (zi ?_ (zi ⟨_, _, rfl, rfl, fun i hi => congrArg (fun l : List (Int × Int) => [AV.sl ⟨70, [i]⟩ l.length]) (slK_all.symm)⟩ (zi (fun i hi => zi ⟨i, hi, rfl⟩ zt) (zi ⟨_, _, rfl, fun z hz => ⟨hz, rowP_sub slK_all.symm⟩⟩ (zi (fun z hz => trivial) zt)))))
 repeat' (first|exact rfl|exact zt|apply zi)
def OrdL (L : List (Int × Int)) : Prop := L.Pairwise (fun p q => p.2 ≤ q.1) ∧ ∀ p, p ∈ L → p.1 < p.2
def mt2 (p q : Int × Int) : Bool := decide (p.1 < q.2) && decide (q.1 < p.2)
theorem mt2_iff {p q : Int × Int} : mt2 p q = true ↔ p.1 < q.2 ∧ q.1 < p.2 := by
 unfold mt2; simp only [Bool.and_eq_true, decide_eq_true_eq]
def MtL (A B : List (Int × Int)) : Prop := ∃ p, p ∈ A ∧ ∃ q, q ∈ B ∧ mt2 p q = true
def ovl (A B : List (Int × Int)) : Bool :=
 match A, B with
 | a :: r, b :: s => if a.2 ≤ b.1 then ovl r (b :: s) else if b.2 ≤ a.1 then ovl (a :: r) s else true
 | _, _ => false
termination_by A.length + B.length
theorem ovl_nil {B : List (Int × Int)} : ovl [] B = false := by unfold ovl; rfl
theorem ovl_nil2 {A : List (Int × Int)} : ovl A [] = false := by unfold ovl; cases A <;> rfl
theorem ovl_cons {a b : Int × Int} {r s : List (Int × Int)} : ovl (a :: r) (b :: s) = if a.2 ≤ b.1 then ovl r (b :: s) else if b.2 ≤ a.1 then ovl (a :: r) s else true := by
 conv => lhs; unfold ovl
theorem OrdL.tail {a : Int × Int} {r : List (Int × Int)} (h : OrdL (a :: r)) : OrdL r := ⟨(List.pairwise_cons.1 h.1).2, fun p hp => h.2 p (List.mem_cons_of_mem _ hp)⟩
theorem ovl_iff : ∀ (n : Nat) (A B : List (Int × Int)), A.length + B.length ≤ n → OrdL A → OrdL B → (ovl A B = true ↔ MtL A B)
 | _, [], B, _, _, _ => by
  rw [ovl_nil]
  exact ⟨fun h => (by cases h), fun ⟨p, hp, _⟩ => (by cases hp)⟩
 | _, a :: r, [], _, _, _ => by
  rw [ovl_nil2]
  exact ⟨fun h => (by cases h), fun ⟨p, hp, q, hq, _⟩ => (by cases hq)⟩
 | 0, a :: r, b :: s, h, _, _ => by simp at h
 | n + 1, a :: r, b :: s, h, hA, hB => by
  have a1 := hA.2 a List.mem_cons_self
  have b1 := hB.2 b List.mem_cons_self
  have a2 := (List.pairwise_cons.1 hA.1).1
  have b2 := (List.pairwise_cons.1 hB.1).1
  simp only [List.length_cons] at h
  rw [ovl_cons]
  by_cases e1 : a.2 ≤ b.1
  ·rw [if_pos e1, ovl_iff n r (b :: s) (by simp only [List.length_cons]; omega) hA.tail hB]
   constructor
   ·rintro ⟨p, hp, q, hq, hm⟩; exact ⟨p, List.mem_cons_of_mem _ hp, q, hq, hm⟩
   ·rintro ⟨p, hp, q, hq, hm⟩
    rcases List.mem_cons.1 hp with rfl | hp
    ·exfalso
     have := (mt2_iff.1 hm).2
     rcases List.mem_cons.1 hq with rfl | hq
     ·omega
     ·have := b2 q hq; omega
    ·exact ⟨p, hp, q, hq, hm⟩
  ·rw [if_neg e1]
   by_cases e2 : b.2 ≤ a.1
   ·rw [if_pos e2, ovl_iff n (a :: r) s (by simp only [List.length_cons]; omega) hA hB.tail]
    constructor
    ·rintro ⟨p, hp, q, hq, hm⟩; exact ⟨p, hp, q, List.mem_cons_of_mem _ hq, hm⟩
    ·rintro ⟨p, hp, q, hq, hm⟩
     rcases List.mem_cons.1 hq with rfl | hq
     ·exfalso
      have := (mt2_iff.1 hm).1
      rcases List.mem_cons.1 hp with rfl | hp
      ·omega
      ·have := a2 p hp; omega
     ·exact ⟨p, hp, q, hq, hm⟩
   ·rw [if_neg e2]
    exact ⟨fun _ => ⟨a, List.mem_cons_self, b, List.mem_cons_self, mt2_iff.2 ⟨by omega, by omega⟩⟩, fun _ => rfl⟩
def apt (p q : Int × Int) : Prop := p.2 ≤ q.1 ∨ q.2 ≤ p.1
theorem ord_sorted {S A B : List (Int × Int)} (hA : OrdL A) (hB : OrdL B) (hn : ¬ MtL A B) (hp : S.Perm (A ++ B)) (hs : S.Pairwise fun p q => ¬ q.1 < p.1) : OrdL S := by
 have hlt : ∀ p, p ∈ S → p.1 < p.2 := fun p hm => by
  rcases List.mem_append.1 (hp.mem_iff.1 hm) with h | h
  ·exact hA.2 p h
  ·exact hB.2 p h
 have h1 : (A ++ B).Pairwise apt := by
  rw [List.pairwise_append]
  refine ⟨hA.1.imp fun h => .inl h, hB.1.imp fun h => .inl h, fun p hpA q hqB => ?_⟩
  refine Classical.byContradiction fun hh => hn ⟨p, hpA, q, hqB, mt2_iff.2 ?_⟩
  unfold apt at hh
  omega
 have h2 : S.Pairwise apt := (hp.pairwise_iff fun h => h.symm).2 h1
 refine ⟨?_, hlt⟩
 have h3 : S.Pairwise fun p q => apt p q ∧ ¬ q.1 < p.1 := (List.pairwise_and_iff).2 ⟨h2, hs⟩
 refine h3.imp_of_mem fun {p q} hp' hq' h => ?_
 have a1 := hlt p hp'
 have a2 := hlt q hq'
 rcases h.1 with h4 | h4
 ·exact h4
 ·have := h.2; omega
theorem mgL_ord {L : List (Int × Int)} {p : Int × Int} (hL : OrdL L) (hp : p.1 < p.2) (hle : ∀ q, q ∈ L → q.2 ≤ p.1) : OrdL (mgL L p) ∧ ∀ q, q ∈ mgL L p → q.2 ≤ p.2 := by
 cases hl : L.getLast? with
 | none =>
  rw [List.getLast?_eq_none_iff] at hl
  subst hl
  have e : mgL [] p = [p] := rfl
  rw [e]
  refine ⟨⟨List.pairwise_singleton _ _, fun q hq => ?_⟩, fun q hq => ?_⟩
  ·rw [List.mem_singleton] at hq; rw [hq]; exact hp
  ·rw [List.mem_singleton] at hq; rw [hq]; exact Int.le_refl _
 | some z =>
  obtain ⟨K, rfl⟩ := List.getLast?_eq_some_iff.1 hl
  have hK := List.pairwise_append.1 hL.1
  have hz := hle z (by simp)
  have hz2 := hL.2 z (by simp)
  by_cases e : z.2 = p.1
  ·rw [mgL_mrg hl e, List.dropLast_concat]
   refine ⟨⟨?_, fun q hq => ?_⟩, fun q hq => ?_⟩
   ·rw [List.pairwise_append]
    refine ⟨hK.1, List.pairwise_singleton _ _, fun a ha b hb => ?_⟩
    rw [List.mem_singleton] at hb; subst hb
    exact hK.2.2 a ha z (by simp)
   ·rcases List.mem_append.1 hq with hq | hq
    ·exact hL.2 q (List.mem_append_left _ hq)
    ·rw [List.mem_singleton] at hq; subst hq
     show z.1 < p.2; omega
   ·rcases List.mem_append.1 hq with hq | hq
    ·have := hle q (List.mem_append_left _ hq); omega
    ·rw [List.mem_singleton] at hq; subst hq; exact Int.le_refl _
  ·rw [mgL_app (fun q hq => by rw [hl] at hq; injection hq with hq; subst hq; exact e)]
   refine ⟨⟨?_, fun q hq => ?_⟩, fun q hq => ?_⟩
   ·rw [List.pairwise_append]
    refine ⟨hL.1, List.pairwise_singleton _ _, fun a ha b hb => ?_⟩
    rw [List.mem_singleton] at hb; subst hb
    exact hle a ha
   ·rcases List.mem_append.1 hq with hq | hq
    ·exact hL.2 q hq
    ·rw [List.mem_singleton] at hq; subst hq; exact hp
   ·rcases List.mem_append.1 hq with hq | hq
    ·have := hle q hq; omega
    ·rw [List.mem_singleton] at hq; subst hq; exact Int.le_refl _
theorem spL_ord {f : Fun} {m : Mch} (h0 : chkF f m = 0) (hC : Chkd f) {v : Nat} (hv : v < f.Values.length) : ∀ b, b ≤ f.Blocks.length → OrdL (spL f (v : Int) b) ∧ ∀ q, q ∈ spL f (v : Int) b → q.2 ≤ startF f.Blocks b
 | 0, _ => ⟨⟨List.Pairwise.nil, fun p hp => by cases hp⟩, fun p hp => by cases hp⟩
 | b + 1, hb => by
  obtain ⟨h1, h2⟩ := spL_ord h0 hC hv b (by omega)
  obtain ⟨_, k, hn⟩ := sgK_of h0 hC (show b < f.Blocks.length by omega) hv 0
  have hs := startF_nx hC (show b < f.Blocks.length by omega)
  have hk := k.hi
  have e : spL f (v : Int) (b + 1) = if 0 ≤ (sgF f (v : Int) b).1 then mgL (spL f (v : Int) b) (startF f.Blocks b + (sgF f (v : Int) b).1, startF f.Blocks b + (sgF f (v : Int) b).2 + 1) else spL f (v : Int) b := rfl
  rw [e]
  split
  ·rename_i g
   have hle := k.le g
   obtain ⟨h3, h4⟩ := mgL_ord (p := (startF f.Blocks b + (sgF f (v : Int) b).1, startF f.Blocks b + (sgF f (v : Int) b).2 + 1)) h1 (by dsimp only; omega) (fun q hq => by have := h2 q hq; dsimp only; omega)
   exact ⟨h3, fun q hq => by have := h4 q hq; dsimp only at this; omega⟩
  ·exact ⟨h1, fun q hq => by have := h2 q hq; omega⟩
def MtG (V : Nat) (sp : Nat → List (Int × Int)) (R : Nat → Nat) (x y : Nat) : Prop := ∃ v, v < V ∧ R v = x ∧ ∃ w, w < V ∧ R w = y ∧ MtL (sp v) (sp w)
open Classical in
noncomputable def jnR (V : Nat) (sp : Nat → List (Int × Int)) (R : Nat → Nat) (a b : Nat) : Nat → Nat := if R a = R b ∨ MtG V sp R (R a) (R b) then R else fun v => if R v = R a ∨ R v = R b then min (R a) (R b) else R v
structure GrI (V : Nat) (sp : Nat → List (Int × Int)) (R h : Nat → Nat) (G : Nat → List (Int × Int)) : Prop where
 Rle : ∀ v, v < V → R v ≤ v
 RR : ∀ v, v < V → R (R v) = R v
 hle : ∀ v, v < V → h v ≤ v
 hR : ∀ v, v < V → R (h v) = R v
 hfix : ∀ v, v < V → h v = v → R v = v
 ord : ∀ v, v < V → R v = v → OrdL (G v)
 mem : ∀ v, v < V → R v = v → ∀ p, p ∈ G v ↔ ∃ w, w < V ∧ R w = v ∧ p ∈ sp w
section
variable {V : Nat} {sp : Nat → List (Int × Int)} {R h : Nat → Nat} {G : Nat → List (Int × Int)}
theorem GrI.start (hs : ∀ v, v < V → OrdL (sp v)) : GrI V sp (fun v => v) (fun v => v) sp :=
 ⟨fun v _ => Nat.le_refl _, fun v _ => rfl, fun v _ => Nat.le_refl _, fun v _ => rfl, fun v _ _ => rfl, fun v hv _ => hs v hv, fun v hv _ p => ⟨fun hp => ⟨v, hv, rfl, hp⟩, fun ⟨w, _, hw, hp⟩ => by subst hw; exact hp⟩⟩
theorem GrI.meet (I : GrI V sp R h G) {a b : Nat} (ha : a < V) (hb : b < V) : ovl (G (R a)) (G (R b)) = true ↔ MtG V sp R (R a) (R b) := by
 have h1 := I.Rle a ha
 have h2 := I.Rle b hb
 rw [ovl_iff _ _ _ (Nat.le_refl _) (I.ord _ (by omega) (I.RR a ha)) (I.ord _ (by omega) (I.RR b hb))]
 constructor
 ·rintro ⟨p, hp, q, hq, hm⟩
  obtain ⟨v, hv, hv2, hp⟩ := (I.mem _ (by omega) (I.RR a ha) p).1 hp
  obtain ⟨w, hw, hw2, hq⟩ := (I.mem _ (by omega) (I.RR b hb) q).1 hq
  exact ⟨v, hv, hv2, w, hw, hw2, p, hp, q, hq, hm⟩
 ·rintro ⟨v, hv, hv2, w, hw, hw2, p, hp, q, hq, hm⟩
  exact ⟨p, (I.mem _ (by omega) (I.RR a ha) p).2 ⟨v, hv, hv2, hp⟩, q, (I.mem _ (by omega) (I.RR b hb) q).2 ⟨w, hw, hw2, hq⟩, hm⟩
theorem GrI.join (I : GrI V sp R h G) {a b : Nat} (ha : a < V) (hb : b < V) (hne : R a ≠ R b) (hn : ¬ MtG V sp R (R a) (R b)) {S : List (Int × Int)} (hp : S.Perm (G (min (R a) (R b)) ++ G (max (R a) (R b)))) (hs : S.Pairwise fun p q => ¬ q.1 < p.1) :
  GrI V sp (jnR V sp R a b) (fun v => if v = max (R a) (R b) then min (R a) (R b) else h v) (fun v => if v = min (R a) (R b) then S else G v) := by
 have h1 := I.Rle a ha
 have h2 := I.Rle b hb
 have e : jnR V sp R a b = fun v => if R v = R a ∨ R v = R b then min (R a) (R b) else R v := by
  unfold jnR
  rw [if_neg]
  rintro (h | h)
  ·exact hne h
  ·exact hn h
 rw [e]
 have ra := I.RR a ha
 have rb := I.RR b hb
 have hx : ∀ x y, (x = R a ∧ y = R b) ∨ (x = R b ∧ y = R a) → ¬ MtL (G x) (G y) := fun x y hxy hm => by
  obtain ⟨p, hp, q, hq, hm⟩ := hm
  refine hn ?_
  rcases hxy with ⟨rfl, rfl⟩ | ⟨rfl, rfl⟩
  ·obtain ⟨v, hv, hv2, hp⟩ := (I.mem _ (by omega) ra p).1 hp
   obtain ⟨w, hw, hw2, hq⟩ := (I.mem _ (by omega) rb q).1 hq
   exact ⟨v, hv, hv2, w, hw, hw2, p, hp, q, hq, hm⟩
  ·obtain ⟨v, hv, hv2, hp⟩ := (I.mem _ (by omega) rb p).1 hp
   obtain ⟨w, hw, hw2, hq⟩ := (I.mem _ (by omega) ra q).1 hq
   exact ⟨w, hw, hw2, v, hv, hv2, q, hq, p, hp, mt2_iff.2 ⟨(mt2_iff.1 hm).2, (mt2_iff.1 hm).1⟩⟩
 obtain ⟨lo, hi, hlo, hhi, hlh, hc⟩ : ∃ lo hi, lo = min (R a) (R b) ∧ hi = max (R a) (R b) ∧ lo < hi ∧ ((lo = R a ∧ hi = R b) ∨ (lo = R b ∧ hi = R a)) := ⟨_, _, rfl, rfl, by omega, by omega⟩
 rw [← hlo, ← hhi] at hp ⊢
 have hloV : lo < V := by omega
 have hhiV : hi < V := by omega
 have rlo : R lo = lo := by rcases hc with ⟨e1, _⟩ | ⟨e1, _⟩ <;> rw [e1] <;> assumption
 have rhi : R hi = hi := by rcases hc with ⟨_, e1⟩ | ⟨_, e1⟩ <;> rw [e1] <;> assumption
 have hcc : ∀ z, (z = R a ∨ z = R b) ↔ (z = lo ∨ z = hi) := fun z => by omega
 simp only [hcc]
 have oS : OrdL S := ord_sorted (I.ord lo hloV rlo) (I.ord hi hhiV rhi) (hx lo hi hc) hp hs
 refine ⟨fun v hv => ?_, fun v hv => ?_, fun v hv => ?_, fun v hv => ?_, fun v hv hf => ?_, fun v hv hr => ?_, fun v hv hr p => ?_⟩
 ·have := I.Rle v hv
  split <;> omega
 ·by_cases c : R v = lo ∨ R v = hi
  ·rw [if_pos c, if_pos (.inl rlo)]
  ·rw [if_neg c, if_neg (by rw [I.RR v hv]; exact c), I.RR v hv]
 ·have := I.hle v hv
  split <;> omega
 ·by_cases c : v = hi
  ·subst c
   rw [if_pos rfl, if_pos (.inl rlo), if_pos (.inr rhi)]
  ·rw [if_neg c, I.hR v hv]
 ·by_cases c : v = hi
  ·rw [if_pos c] at hf; omega
  ·rw [if_neg c] at hf
   have := I.hfix v hv hf
   rw [this]
   by_cases c2 : v = lo
   ·rw [if_pos (.inl c2), c2]
   ·rw [if_neg (by omega)]
 ·by_cases c : v = lo
  ·rw [if_pos c]; exact oS
  ·rw [if_neg c]
   by_cases c2 : R v = lo ∨ R v = hi
   ·rw [if_pos c2] at hr; omega
   ·rw [if_neg c2] at hr; exact I.ord v hv hr
 ·by_cases c : v = lo
  ·subst c
   rw [if_pos rfl, hp.mem_iff, List.mem_append, I.mem v hloV rlo, I.mem hi hhiV rhi]
   constructor
   ·rintro (⟨w, hw, hw2, hq⟩ | ⟨w, hw, hw2, hq⟩)
    ·exact ⟨w, hw, if_pos (.inl hw2), hq⟩
    ·exact ⟨w, hw, if_pos (.inr hw2), hq⟩
   ·rintro ⟨w, hw, hw2, hq⟩
    by_cases c2 : R w = v ∨ R w = hi
    ·rcases c2 with c2 | c2
     ·exact .inl ⟨w, hw, c2, hq⟩
     ·exact .inr ⟨w, hw, c2, hq⟩
    ·rw [if_neg c2] at hw2
     exact absurd (.inl hw2) c2
  ·rw [if_neg c]
   by_cases c2 : R v = lo ∨ R v = hi
   ·rw [if_pos c2] at hr; omega
   ·rw [if_neg c2] at hr
    rw [I.mem v hv hr]
    constructor
    ·rintro ⟨w, hw, hw2, hq⟩
     refine ⟨w, hw, ?_, hq⟩
     rw [if_neg (by rw [hw2, ← hr]; exact c2)]; exact hw2
    ·rintro ⟨w, hw, hw2, hq⟩
     refine ⟨w, hw, ?_, hq⟩
     by_cases c3 : R w = lo ∨ R w = hi
     ·rw [if_pos c3] at hw2; omega
     ·rw [if_neg c3] at hw2; exact hw2
end
end Go.Proofs.YtjjgjflbhpoloaaGreat
namespace Go.Abs
open Go Go.RowKit Go.Sort Go.Shelf Go.Proofs
section
variable {α : Type} [Inhabited α] {enc : α → List Value} {k : Nat}
theorem flat_at (hk : ∀ x, (enc x).length = k) {d : Array α} {i j : Nat} (hi : i < d.size) (hj : j < k) : (flatK enc k d)[i * k + j]? = (enc d[i]!)[j]? := by
 have hlt : i * k + j < d.size * k := by
  have : (i + 1) * k ≤ d.size * k := Nat.mul_le_mul_right _ hi
  rw [Nat.add_mul, Nat.one_mul] at this; omega
 have e1 : (i * k + j) / k = i := by rw [Nat.mul_comm, Nat.mul_add_div (by omega), Nat.div_eq_of_lt hj, Nat.add_zero]
 have e2 : (i * k + j) % k = j := by rw [Nat.mul_comm, Nat.mul_add_mod, Nat.mod_eq_of_lt hj]
 have e3 : j < (enc d[i]!).length := by rw [hk]; exact hj
 have h := get_flatK enc k d _ hlt
 rw [e1, e2] at h
 have hs : i * k + j < (flatK enc k d).size := by rw [size_flatK]; exact hlt
 rw [Array.getElem?_eq_getElem hs, List.getElem?_eq_getElem e3]
 rw [getElem!_pos (flatK enc k d) _ hs, getElem!_pos (enc d[i]!) _ e3] at h
 rw [h]
theorem put_get (F c : Array Value) (t : Nat) (hF : F.size ≤ c.size) : (putCells id 0 F c)[t]? = if t < F.size then F[t]? else c[t]? := by
 unfold putCells
 rw [Array.getElem?_mapIdx]
 by_cases h : t < F.size
 ·rw [if_pos h, Array.getElem?_eq_getElem (by omega), Array.getElem?_eq_getElem h]
  simp [h]
 ·rw [if_neg h]
  cases c[t]? with
  | none => rfl
  | some x => simp [h]
theorem sortM {P : Program} {f g e : Nat} {srt : Array α → Array α} (hk : ∀ x, (enc x).length = k) (hfn : fnB P f = true)
  (hS : ∀ blk cap (d : Array α) w, HoldsK enc k w blk 0 d → blk < w.heap.size → d.size < 4611686018427387904 → Calls P f #[.slice (some ⟨blk, 0, none⟩) d.size cap, .func (.func g) #[] #[]] w fun e w' => e = .returned (.tuple #[]) ∧ ∃ n os, w' = sortWorldK enc k w blk 0 n (srt d) os)
  (hsz : ∀ d, (srt d).size = d.size) (h0 : ∀ n p cap w, n = 0 → Calls P f #[.slice p n cap, .func (.func g) #[] #[]] w fun e w' => e = .returned (.tuple #[]) ∧ w' = w)
  (d : Array α) (hd : d.size < 4611686018427387904) :
  ACallM P f ⟨[.sl ⟨1001, []⟩ d.size, .val (.func (.func g) #[] #[])], [(1001, .row e k d.size fun i => (enc d[i]!).map .val)], .tup [], [(1001, .row e k d.size fun i => (enc (srt d)[i]!).map .val)]⟩ := by
 unfold ACallM
 refine ⟨hfn, ?_, ?_⟩
 ·exact ⟨⟨zt, zt⟩, ⟨rfl, zt, zt⟩, ⟨zt, zt⟩⟩
 intro F τ w vs hr hlen hargs
 obtain ⟨v0, v1, rfl⟩ : ∃ v0 v1, vs = [v0, v1] := by
  match vs, hlen with
  | [a, b], _ => exact ⟨a, b, rfl⟩
 have a0 := hargs 0 _ rfl
 have a1 := hargs 1 _ rfl
 simp only [List.getD_cons_zero, List.getD_cons_succ] at a0 a1
 obtain ⟨u0, q1, q2⟩ := hr.obj ⟨1001, []⟩ _ (Has.of_look rfl rfl)
 obtain ⟨xs, hown, r3, r4⟩ := q2
 have hdom : ∀ {o : HO} {nm : Nm}, o.flat = true → ((∃ y, Has [(1001, o)] nm y) ↔ nm = ⟨1001, []⟩) := fun {o nm} ho => by
  rw [has_cons_ex ho]
  constructor
  ·rintro (h | ⟨_, y, hy⟩)
   ·exact h
   ·obtain ⟨z, hz, _⟩ := hy; cases hz
  ·exact fun h => .inl h
 have hat : ∀ {o y : HO} {nm : Nm}, o.flat = true → Has [(1001, o)] nm y → nm = ⟨1001, []⟩ ∧ y = o := fun {o y nm} ho h => by
  rcases (has_cons ho).1 h with h | ⟨_, h⟩
  ·exact h
  ·obtain ⟨z, hz, _⟩ := h; cases hz
 cases a1
 cases a0 with
 | sl _ _ _ A m c hτ hnm hmc hA =>
  rw [hτ] at q1; injection q1 with q1; subst q1
  have hm := own_form hown
  subst hm
  by_cases hn : d.size = 0
  ·refine (h0 _ A c w hn).mono ?_
   rintro e' w' ⟨rfl, rfl⟩
   refine ⟨_, F, τ, rfl, ⟨hr.keeps, hr.fz, hr.fne, hr.fsub, hr.fsup, hr.tlt, hr.inj, fun nm o ho => ?_, fun nm v hv => ?_, hr.old, hr.cxn⟩, .tup _ [] #[] rfl (fun j c h => by cases h)⟩
   ·obtain ⟨rfl, rfl⟩ := hat rfl ho
    exact ⟨_, hτ, xs, hown, fun i hi => by omega, fun i j x hi => by omega⟩
   ·obtain ⟨o, ho⟩ := hr.dom nm v hv
    obtain ⟨rfl, _⟩ := hat rfl ho
    exact ⟨_, Has.of_look rfl rfl⟩
  ·rcases hown.2 with ⟨h', h0'⟩ | ⟨g', cap, cur, hv, _, hg, hnc, hcm, hcs, htk⟩
   ·exact absurd h0' hn
   simp only [Value.slice.injEq] at hv
   obtain ⟨rfl, _, rfl⟩ := hv
   have hglt : g' < w.heap.size := (Array.getElem?_eq_some_iff.1 hg).1
   have hncK : d.size * k ≤ c * k := Nat.mul_le_mul_right _ hnc
   have hcell : ∀ t, t < d.size * k → cur[t]? = (flatK enc k d)[t]? := fun t ht => by
    have k0 : 0 < k := Nat.pos_of_ne_zero fun h => by rw [h] at ht; omega
    have hi : t / k < d.size := by rw [Nat.div_lt_iff_lt_mul k0]; exact ht
    have hq : t % k < k := Nat.mod_lt _ k0
    have et : t / k * k + t % k = t := Nat.div_add_mod' t k
    have e1 := flat_at hk (d := d) hi hq
    rw [et] at e1
    have e3 : t % k < (enc d[t / k]!).length := by rw [hk]; exact hq
    rw [List.getElem?_eq_getElem e3] at e1
    have h4 := r4 (t / k) (t % k) (.val (enc d[t / k]!)[t % k]) hi (by rw [List.getElem?_map, List.getElem?_eq_getElem e3]; rfl)
    rw [et] at h4
    have hlx : t < xs.length := by rw [hown.1]; exact ht
    rw [List.getD_eq_getElem?_getD, List.getElem?_eq_getElem hlx, Option.getD_some] at h4
    have e5 : xs[t] = (enc d[t / k]!)[t % k] := by
     generalize xs[t] = y at h4
     generalize (enc d[t / k]!)[t % k] = z at h4
     cases h4; rfl
    have e6 : cur.toList[t]? = xs[t]? := by rw [← htk, List.getElem?_take, if_pos ht]
    rw [← Array.getElem?_toList, e6, List.getElem?_eq_getElem hlx, e5, e1]
   have hH : HoldsK enc k w g' 0 d := fun j hj => by
    have hj' : j < d.size * k := by rw [size_flatK] at hj; exact hj
    constructor
    ·show w.cell? ⟨g', 0 + j, none⟩ = some (id (flatK enc k d)[j]!)
     unfold World.cell?
     simp only [hg, Nat.zero_add, Option.isSome_none, Bool.false_eq_true, if_false, id]
     rw [hcell j hj', Array.getElem?_eq_getElem hj, getElem!_pos (flatK enc k d) _ hj]
    ·unfold World.frozen?
     simp [hg]
   refine (hS g' c d w hH hglt hd).mono ?_
   rintro e' w' ⟨rfl, n', os, rfl⟩
   have hFs : (flatK enc k (srt d)).size = d.size * k := by rw [size_flatK, hsz]
   have hheap : (sortWorldK enc k w g' 0 n' (srt d) os).heap = w.heap.modify g' (onCells (putCells id 0 (flatK enc k (srt d)))) ++ os := rfl
   have hms : (w.heap.modify g' (onCells (putCells id 0 (flatK enc k (srt d))))).size = w.heap.size := by simp
   have hsize : w.heap.size ≤ (sortWorldK enc k w g' 0 n' (srt d) os).heap.size := by rw [hheap, Array.size_append, hms]; omega
   have hoth : ∀ b, b < w.heap.size → b ≠ g' → (sortWorldK enc k w g' 0 n' (srt d) os).heap[b]? = w.heap[b]? := fun b hb hne => by
    rw [hheap, Array.getElem?_append_left (by rw [hms]; exact hb), Array.getElem?_modify, if_neg (fun e => hne e.symm)]
   have hat' : (sortWorldK enc k w g' 0 n' (srt d) os).heap[g']? = some (.cells (putCells id 0 (flatK enc k (srt d)) cur) e (0, 0)) := by
    rw [hheap, Array.getElem?_append_left (by rw [hms]; exact hglt), Array.getElem?_modify, if_pos rfl, hg]; rfl
   refine ⟨_, F, τ, rfl, ⟨⟨rfl, rfl, rfl, hsize, fun b hb hx => hoth b hb (fun e => hx (by subst e; exact ⟨_, _, hτ, rfl⟩))⟩, fun b hb => Nat.lt_of_lt_of_le (hr.fz b hb) hsize, hr.fne, hr.fsub, hr.fsup, fun nm v b h1 h2 => ⟨(hr.tlt nm v b h1 h2).1, Nat.lt_of_lt_of_le (hr.tlt nm v b h1 h2).2 hsize⟩, hr.inj, fun nm o ho => ?_, fun nm v hv => ?_, hr.old, hr.cxn⟩, .tup _ [] #[] rfl (fun j c h => by cases h)⟩
   ·obtain ⟨rfl, rfl⟩ := hat rfl ho
    have hcs' : (putCells id 0 (flatK enc k (srt d)) cur).size = cur.size := by simp [putCells]
    refine ⟨_, hτ, (flatK enc k (srt d)).toList, ⟨by rw [Array.length_toList, hFs], .inr ⟨g', c, _, rfl, Nat.zero_le _, hat', hnc, hcm, by rw [hcs', hcs], ?_⟩⟩, fun i hi => by rw [List.length_map, hk], fun i j x hi hx => ?_⟩
    ·refine List.ext_getElem? fun t => ?_
     rw [List.getElem?_take, Array.getElem?_toList, Array.getElem?_toList, put_get _ _ _ (by rw [hFs, hcs]; exact hncK), hFs]
     by_cases ht : t < d.size * k
     ·rw [if_pos ht, if_pos ht]
     ·rw [if_neg ht, Array.getElem?_eq_none (by rw [hFs]; omega)]
    ·rw [List.getElem?_map] at hx
     cases hu : (enc (srt d)[i]!)[j]? with
     | none => rw [hu] at hx; cases hx
     | some u =>
      rw [hu] at hx; injection hx with hx; subst hx
      have hj : j < k := by have := (List.getElem?_eq_some_iff.1 hu).1; rw [hk] at this; exact this
      rw [List.getD_eq_getElem?_getD, Array.getElem?_toList, flat_at hk (by rw [hsz]; exact hi) hj, hu]
      exact .val _ _
   ·obtain ⟨o, ho⟩ := hr.dom nm v hv
    obtain ⟨rfl, _⟩ := hat rfl ho
    exact ⟨_, Has.of_look rfl rfl⟩
end
end Go.Abs
namespace Go.Proofs.YtjjgjflbhpoloaaGreat
open Go Go.Abs Go.RowKit Go.Sort Go.Shelf Go.Proofs
def spanSort_ren : Go.Shelf.Ren := ⟨fun | 6 => 17 | 15 => 33 | 14 => 32 | 28 => 68 | 29 => 69 | 20 => 60 | 21 => 61 | 22 => 62 | 23 => 63 | 24 => 64 | 25 => 65 | 26 => 66 | 27 => 67 | 46 => 92 | 47 => 93 | 48 => 94 | 49 => 95 | 50 => 96 | 57 => 112 | n => n, fun | 22 => 66 | 24 => 63 | 25 => 70 | 3 => 3 | 39 => 91 | 0 => 0 | 53 => 119 | 55 => 106 | 4 => 4 | 46 => 112 | 45 => 111 | 50 => 116 | 5 => 5 | 9 => 9 | 66 => 136 | 70 => 140 | 76 => 154 | 77 => 155 | n => n, fun | n => n⟩
theorem spanSort : SlLaysF0.n6 Tryz.prog spanSort_ren where
 mixed := by kernel_rfl
 f6 := ⟨Tryz.f17.name, by decide, Tryz.func17.trans (congrArg some (by kernel_rfl))⟩
 f14 := ⟨Tryz.f32.name, by decide, Tryz.func32.trans (congrArg some (by kernel_rfl))⟩
 f15 := Tryz.func33.trans (congrArg some (by kernel_rfl))
 f20 := ⟨Tryz.f60.name, by decide, Tryz.func60.trans (congrArg some (by kernel_rfl))⟩
 f21 := ⟨Tryz.f61.name, by decide, Tryz.func61.trans (congrArg some (by kernel_rfl))⟩
 f22 := ⟨Tryz.f62.name, by decide, Tryz.func62.trans (congrArg some (by kernel_rfl))⟩
 f23 := ⟨Tryz.f63.name, by decide, Tryz.func63.trans (congrArg some (by kernel_rfl))⟩
 f24 := ⟨Tryz.f64.name, by decide, Tryz.func64.trans (congrArg some (by kernel_rfl))⟩
 f25 := ⟨Tryz.f65.name, by decide, Tryz.func65.trans (congrArg some (by kernel_rfl))⟩
 f26 := ⟨Tryz.f66.name, by decide, Tryz.func66.trans (congrArg some (by kernel_rfl))⟩
 f27 := ⟨Tryz.f67.name, by decide, Tryz.func67.trans (congrArg some (by kernel_rfl))⟩
 f28 := Tryz.func68.trans (congrArg some (by kernel_rfl))
 f29 := Tryz.func69.trans (congrArg some (by kernel_rfl))
 f46 := ⟨Tryz.f92.name, by decide, Tryz.func92.trans (congrArg some (by kernel_rfl))⟩
 f47 := Tryz.func93.trans (congrArg some (by kernel_rfl))
 f48 := Tryz.func94.trans (congrArg some (by kernel_rfl))
 f49 := ⟨Tryz.f95.name, by decide, Tryz.func95.trans (congrArg some (by kernel_rfl))⟩
 f50 := ⟨Tryz.f96.name, by decide, Tryz.func96.trans (congrArg some (by kernel_rfl))⟩
 f57 := ⟨Tryz.f112.name, by decide, Tryz.func112.trans (congrArg some (by kernel_rfl))⟩
 t0 := Tryz.underlying0
 a0 := Tryz.isAgg0
 z0 := Tryz.sizeOf0
 v0 := Tryz.zeroValue0
 t3 := Tryz.underlying3
 a3 := Tryz.isAgg3
 z3 := Tryz.sizeOf3
 v3 := Tryz.zeroValue3
 t4 := Tryz.underlying4
 a4 := Tryz.isAgg4
 z4 := Tryz.sizeOf4
 v4 := Tryz.zeroValue4
 t5 := Tryz.underlying5
 a5 := Tryz.isAgg5
 z5 := Tryz.sizeOf5
 v5 := Tryz.zeroValue5
 t9 := Tryz.underlying9
 a9 := Tryz.isAgg9
 z9 := Tryz.sizeOf9
 v9 := Tryz.zeroValue9
 t22 := Tryz.underlying66
 a22 := Tryz.isAgg66
 z22 := Tryz.sizeOf66
 v22 := Tryz.zeroValue66
 t25 := Tryz.underlying70
 a25 := Tryz.isAgg70
 z25 := Tryz.sizeOf70
 v25 := Tryz.zeroValue70
 t39 := Tryz.underlying91
 a39 := Tryz.isAgg91
 z39 := Tryz.sizeOf91
 v39 := Tryz.zeroValue91
 t45 := Tryz.underlying111
 a45 := Tryz.isAgg111
 z45 := Tryz.sizeOf111
 v45 := Tryz.zeroValue111
 t46 := Tryz.underlying112
 a46 := Tryz.isAgg112
 z46 := Tryz.sizeOf112
 v46 := Tryz.zeroValue112
 t50 := Tryz.underlying116
 a50 := Tryz.isAgg116
 z50 := Tryz.sizeOf116
 v50 := Tryz.zeroValue116
 t53 := Tryz.underlying119
 a53 := Tryz.isAgg119
 z53 := Tryz.sizeOf119
 v53 := Tryz.zeroValue119
 t55 := Tryz.underlying106
 a55 := Tryz.isAgg106
 z55 := Tryz.sizeOf106
 v55 := Tryz.zeroValue106
 t66 := Tryz.underlying136
 a66 := Tryz.isAgg136
 z66 := Tryz.sizeOf136
 v66 := Tryz.zeroValue136
 t70 := Tryz.underlying140
 a70 := Tryz.isAgg140
 z70 := Tryz.sizeOf140
 v70 := Tryz.zeroValue140
 t76 := Tryz.underlying154
 a76 := Tryz.isAgg154
 z76 := Tryz.sizeOf154
 v76 := Tryz.zeroValue154
 t77 := Tryz.underlying155
 a77 := Tryz.isAgg155
 z77 := Tryz.sizeOf155
 v77 := Tryz.zeroValue155
def cmpInt_ren : Go.Shelf.Ren := ⟨fun | 5 => 19 | 7 => 34 | n => n, fun | 22 => 3 | 3 => 3 | 4 => 4 | n => n, fun | n => n⟩
theorem cmpInt : SlLaysC2.n5 Tryz.prog cmpInt_ren where
 mixed := by kernel_rfl
 f5 := ⟨Tryz.f19.name, by decide, Tryz.func19.trans (congrArg some (by kernel_rfl))⟩
 f7 := ⟨Tryz.f34.name, by decide, Tryz.func34.trans (congrArg some (by kernel_rfl))⟩
 t3 := Tryz.underlying3
 a3 := Tryz.isAgg3
 z3 := Tryz.sizeOf3
 v3 := Tryz.zeroValue3
 t4 := Tryz.underlying4
 a4 := Tryz.isAgg4
 z4 := Tryz.sizeOf4
 v4 := Tryz.zeroValue4
 t22 := Tryz.underlying3
 a22 := Tryz.isAgg3
 z22 := Tryz.sizeOf3
 v22 := Tryz.zeroValue3
@[reducible] def spW (p : Int × Int) : List Value := [.int .i64 p.1, .int .i64 p.2]
def cmpS (x y : Int × Int) : Int := Lib.compareInt x.1 y.1
theorem cmpS_lt (x y : Int × Int) : ltOf cmpS x y = decide (x.1 < y.1) := by
 unfold ltOf cmpS Lib.compareInt
 by_cases h1 : x.1 < y.1
 ·simp [h1]
 ·by_cases h2 : y.1 < x.1 <;> simp [h1, h2]
theorem cmpS_swo : SWO (ltOf cmpS) where
 irrefl x := by rw [cmpS_lt]; simp
 trans x y z h1 h2 := by rw [cmpS_lt] at *; simp at *; omega
 ntrans x y z h1 h2 := by rw [cmpS_lt] at *; simp at *; omega
set_option maxHeartbeats 1000000 in
theorem less_raw (x0 x1 y0 y1 : Int) (W : World) : Calls Tryz.prog 18 #[.agg #[.int .i64 x0, .int .i64 x1], .agg #[.int .i64 y0, .int .i64 y1]] W fun e w' => e = .returned (.int .i64 (Lib.compareInt x0 y0)) ∧ ∃ q os', w' = grow (W.drewN q) os' := by
 have hcon := fun W' => AnyG.cmp_Compare_int cmpInt x0 y0 W'
 change ∀ W', Calls Tryz.prog 19 _ _ _ at hcon
 generalize Lib.compareInt x0 y0 = r at hcon ⊢
 go_enter Tryz.func18, Tryz.ntmps18
 go_wp2_with (go_at_call 19; refine (hcon _).mono ?_; rintro e w' ⟨rfl, rfl⟩)
 go_ret
 exact ⟨rfl, 0, _, by rw [alloc_eq_grow, alloc_eq_grow, grow_grow]; rfl⟩
theorem cmpSp (blk off size : Nat) (w : World) : CmpLays Tryz.prog 18 #[] spW 2 cmpS blk off size w :=
 fun _ _ _ _ x y => less_raw _ _ _ _ _
def srtS (d : Array (Int × Int)) : Array (Int × Int) := pdq (ltOf cmpS) d 0 d.size (Lib.bitLen d.size) true true
theorem srtS_ok (d : Array (Int × Int)) : PermIn 0 d.size d (srtS d) ∧ SortedIn (ltOf cmpS) 0 d.size (srtS d) :=
 pdq_sorts (ltOf cmpS) cmpS_swo d 0 d.size (Lib.bitLen d.size) true true (Nat.zero_le _) (Nat.le_refl _) (Or.inl rfl)
theorem sortS (d : Array (Int × Int)) (hd : d.size < 4611686018427387904) : ACallM B.P 17 ⟨[.sl ⟨1001, []⟩ d.size, .val (.func (.func 18) #[] #[])], [(1001, .row 63 2 d.size fun i => (spW d[i]!).map .val)], .tup [], [(1001, .row 63 2 d.size fun i => (spW (srtS d)[i]!).map .val)]⟩ := by
 refine sortM (P := B.P) (f := 17) (g := 18) (e := 63) (enc := spW) (k := 2) (srt := srtS) (fun _ => rfl) (by kernel_rfl) (fun blk cap d w hH hb hs => ?_) (fun d => (srtS_ok d).1.1) (fun n p cap w hn => ?_) d hd
 ·exact AnyQ.slices_SortFunc_eq spanSort 2 Tryz.isAgg63 Tryz.sizeOf63 spW (fun _ => rfl) (fun x v hv => by simp [spW] at hv; rcases hv with rfl | rfl <;> rfl) cmpS cmpS_swo 18 #[] blk 0 cap d w (enters_of Tryz.func18 (by kernel_rfl) rfl) (cmpSp blk 0 d.size w) hH hb hs
 ·subst hn; exact AnyF.slices_SortFunc_none spanSort p cap _ w
theorem c_SortSpan (L : List (Int × Int)) (hl : L.length < 4611686018427387904) : ∃ S : List (Int × Int), S.Perm L ∧ S.Pairwise (fun p q => ¬ q.1 < p.1) ∧ ACallM B.P 17 ⟨[.sl ⟨1001, []⟩ L.length, .val (.func (.func 18) #[] #[])], [(1001, .row 63 2 L.length fun i => spC (L.getD i default))], .tup [], [(1001, .row 63 2 L.length fun i => spC (S.getD i default))]⟩ := by
 have h := sortS L.toArray (by simpa using hl)
 obtain ⟨h1, h2⟩ := srtS_ok L.toArray
 refine ⟨(srtS L.toArray).toList, ?_, ?_, ?_⟩
 ·have h3 := h1.2.2
  have e1 : ((srtS L.toArray).extract 0 L.toArray.size) = srtS L.toArray := by rw [← h1.1, Array.extract_size]
  rw [e1, Array.extract_size] at h3
  simpa using h3
 ·rw [List.pairwise_iff_getElem]
  intro i j hi hj hij
  have hs : (srtS L.toArray).size = L.toArray.size := h1.1
  have hj' : j < (srtS L.toArray).size := by simpa using hj
  have h := h2 i j (Nat.zero_le _) hij (by omega)
  rw [cmpS_lt, getElem!_pos (srtS L.toArray) j hj', getElem!_pos (srtS L.toArray) i (by omega)] at h
  simpa using h
 ·have e1 : ∀ (d : Array (Int × Int)) (i : Nat), (spW d[i]!).map AV.val = spC (d.toList.getD i default) := fun d i => by
   have : d[i]! = d.toList.getD i default := by
    rw [List.getD_eq_getElem?_getD, Array.getElem?_toList]
    by_cases hi : i < d.size
    ·rw [getElem!_pos d i hi, Array.getElem?_eq_getElem hi]; rfl
    ·rw [getElem!_neg d i hi, Array.getElem?_eq_none (by omega)]; rfl
   rw [this]; rfl
  simp only [e1] at h
  simpa using h
end Go.Proofs.YtjjgjflbhpoloaaGreat
namespace Go.Proofs.YtjjgjflbhpoloaaGreat
open Go Go.Abs Go.RowKit
def mtF (A B : List (Int × Int)) : Bool := anyB (fun i => anyB (fun k => mt2 (A.getD i default) (B.getD k default)) B.length) A.length
theorem anyB_iff {p : Nat → Bool} {n : Nat} : anyB p n = true ↔ ∃ i, i < n ∧ p i = true := by
 constructor
 ·intro h
  refine Classical.byContradiction fun hn => ?_
  rw [anyB_none (fun j hj => by cases hp : p j with
   | false => rfl
   | true => exact absurd ⟨j, hj, hp⟩ hn)] at h
  cases h
 ·rintro ⟨i, hi, hp⟩; exact anyB_hit hi hp
theorem mtF_iff {A B : List (Int × Int)} : mtF A B = true ↔ MtL A B := by
 have hg : ∀ (L : List (Int × Int)) i, i < L.length → L.getD i default ∈ L := fun L i hi => by
  rw [List.getD_eq_getElem?_getD, List.getElem?_eq_getElem hi]
  exact List.getElem_mem hi
 have hg' : ∀ (L : List (Int × Int)) p, p ∈ L → ∃ i, i < L.length ∧ L.getD i default = p := fun L p hp => by
  obtain ⟨i, hi, e⟩ := List.mem_iff_getElem.1 hp
  exact ⟨i, hi, by rw [List.getD_eq_getElem?_getD, List.getElem?_eq_getElem hi]; exact e⟩
 unfold mtF
 rw [anyB_iff]
 constructor
 ·rintro ⟨i, hi, h⟩
  obtain ⟨k, hk, h⟩ := anyB_iff.1 h
  exact ⟨_, hg A i hi, _, hg B k hk, h⟩
 ·rintro ⟨p, hp, q, hq, h⟩
  obtain ⟨i, hi, rfl⟩ := hg' A p hp
  obtain ⟨k, hk, rfl⟩ := hg' B q hq
  exact ⟨i, hi, anyB_iff.2 ⟨k, hk, h⟩⟩
theorem bif_and2 (a b : Bool) : (bif a then b else false) = (a && b) := by cases a <;> rfl
set_option maxHeartbeats 2000000 in
theorem c_spansMeet (A B' : List (Int × Int)) (hA : A.length ≤ maxLen) (hB : B'.length ≤ maxLen) : ACallIs B.P 44 [spV A, spV B'] (.bool (mtF A B')) := by
 refine ACallIs.enter B _ _ Tryz.func44 rfl rfl Tryz.ntmps44 Tryz.results44 rfl fun _ => ?_
 repeat (first|apply zq|apply zb|apply zk)
 apply zr;intro _
 repeat (first|apply zq|apply zb|apply zk)
 apply zr;intro _
 repeat (first|apply zq|apply zb|apply zk)
 refine AWp.loop (fun i : Nat => ⟨[(0, spV A), (1, spV B'), (5, .i64 i)], []⟩) (fun i => i ≤ A.length ∧ ∀ j, j < i → anyB (fun k => mt2 (A.getD j default) (B'.getD k default)) B'.length = false) (fun i => A.length - i) 0 ⟨Nat.zero_le _, fun j hj => absurd hj (Nat.not_lt_zero _)⟩ ?_ ?_
 ·repeat' (first|exact rfl|exact zt|apply zi)
 rintro i ⟨hi, hn⟩
 repeat (first|apply zq|apply zb|apply zk)
 apply zr;intro _
 repeat (first|apply zq|apply zb|apply zk)
 apply AWp.cond;apply zi<;>intro h1
 ·have hi' : i < A.length := zd h1
  repeat (first|apply zq|apply zb|apply zk)
  apply zr;intro _
  repeat (first|apply zq|apply zb|apply zk)
  refine AWp.loop (fun k : Nat => ⟨[(0, spV A), (1, spV B'), (5, .i64 i), (6, .i64 k)], []⟩) (fun k => k ≤ B'.length ∧ ∀ j, j < k → mt2 (A.getD i default) (B'.getD j default) = false) (fun k => B'.length - k) 0 ⟨Nat.zero_le _, fun j hj => absurd hj (Nat.not_lt_zero _)⟩ ?_ ?_
  ·repeat' (first|exact rfl|exact zt|apply zi)
  rintro k ⟨hk, hm⟩
  repeat (first|apply zq|apply zb|apply zk)
  apply zr;intro _
  repeat (first|apply zq|apply zb|apply zk)
  apply AWp.cond;apply zi<;>intro h2
  ·have hk' : k < B'.length := zd h2
   repeat (first|apply zq|apply zb|apply zk)
   refine AWp.draw mixed (by kernel_rfl) ?_
   repeat' (first|exact zt|apply zi|fail)
   all_goals first|exact fun h => h|exact fun _ => nn (hi')|exact fun _ => nn (hk')|exact gT|exact gF|exact gN|exact gA|skip
   intro _
   repeat (first|apply zq|apply zb|apply zk)
   apply AWp.cond;apply zi<;>intro h3
   ·have h3 : (bif decide ((A.getD i default).1 < (B'.getD k default).2) then decide ((B'.getD k default).1 < (A.getD i default).2) else false) = true := h3
    rw [bif_and2] at h3
    repeat (first|apply zq|apply zb|apply zk)
    apply zr;intro _
    refine AWp.ret ⟨Or.inl rfl, rfl, ?_⟩
    intro _
    refine tupB (show true = mtF A B' from ?_)
    exact (anyB_hit (p := fun i => anyB (fun k => mt2 (A.getD i default) (B'.getD k default)) B'.length) hi' (anyB_hit (p := fun k => mt2 (A.getD i default) (B'.getD k default)) hk' h3)).symm
   have h3 : (bif decide ((A.getD i default).1 < (B'.getD k default).2) then decide ((B'.getD k default).1 < (A.getD i default).2) else false) = false := h3
   rw [bif_and2] at h3
   refine AWp.skip ?_
   repeat (first|apply zq|apply zb|apply zk)
   apply zr;intro _
   refine Exists.intro (k + 1) (zi ⟨hk', fun j hj => ?_⟩ (zi ?_ (by omega)))
   ·by_cases e : j = k
    ·subst e; exact h3
    ·exact hm j (by omega)
   ·repeat' (first|exact rfl|exact zt|exact zw hk' hB|apply zi)
  have hk3 : ¬ (k : Int) < B'.length := of_decide_eq_false h2
  obtain rfl : k = B'.length := by omega
  apply ze
  repeat (first|apply zq|apply zb|apply zk)
  apply zr;intro _
  refine Exists.intro (i + 1) (zi ⟨hi', fun j hj => ?_⟩ (zi ?_ (by omega)))
  ·by_cases e : j = i
   ·subst e; exact anyB_none hm
   ·exact hn j (by omega)
  ·repeat' (first|exact rfl|exact zt|exact zw hi' hA|apply zi)
 have hi3 : ¬ (i : Int) < A.length := of_decide_eq_false h1
 obtain rfl : i = A.length := by omega
 apply ze
 repeat (first|apply zq|apply zb|apply zk)
 apply zr;intro _
 refine AWp.ret ⟨Or.inl rfl, rfl, ?_⟩
 intro _
 refine tupB (show false = mtF A B' from ?_)
 exact (anyB_none hn).symm
def mgF (V : Nat) (sp : Nat → List (Int × Int)) (R : Nat → Nat) (x y : Nat) : Bool := anyB (fun v => anyB (fun w => R v == x && R w == y && mtF (sp v) (sp w)) V) V
theorem mgF_iff {V : Nat} {sp : Nat → List (Int × Int)} {R : Nat → Nat} {x y : Nat} : mgF V sp R x y = true ↔ MtG V sp R x y := by
 unfold mgF MtG
 rw [anyB_iff]
 constructor
 ·rintro ⟨v, hv, h⟩
  obtain ⟨w, hw, h⟩ := anyB_iff.1 h
  simp only [Bool.and_eq_true, beq_iff_eq] at h
  exact ⟨v, hv, h.1.1, w, hw, h.1.2, mtF_iff.1 h.2⟩
 ·rintro ⟨v, hv, h1, w, hw, h2, h3⟩
  refine ⟨v, hv, anyB_iff.2 ⟨w, hw, ?_⟩⟩
  simp only [Bool.and_eq_true, beq_iff_eq]
  exact ⟨⟨h1, h2⟩, mtF_iff.2 h3⟩
@[reducible] def natsI (V : Nat) (R : Nat → Nat) : AV := .ro 1 V (fun i => [.i64 (R i : Nat)])
@[reducible] def spsI (V : Nat) (sp : Nat → List (Int × Int)) : AV := .ro 1 V (fun v => [spV (sp v)])
theorem beq_nat (a b : Nat) : ((a : Int) == (b : Int)) = (a == b) := by
 rw [Bool.eq_iff_iff]; simp only [beq_iff_eq]; omega
set_option maxHeartbeats 4000000 in
theorem c_groupsMeet (V : Nat) (sp : Nat → List (Int × Int)) (R : Nat → Nat) (x y : Nat) (hV : V ≤ maxLen) (hs : ∀ v, v < V → (sp v).length ≤ maxLen) : ACallIs B.P 24 [spsI V sp, natsI V R, .i64 x, .i64 y] (.bool (mgF V sp R x y)) := by
 refine ACallIs.enter B _ _ Tryz.func24 rfl rfl Tryz.ntmps24 Tryz.results24 rfl fun _ => ?_
 repeat (first|apply zq|apply zb|apply zk)
 apply zr;intro _
 repeat (first|apply zq|apply zb|apply zk)
 apply zr;intro _
 repeat (first|apply zq|apply zb|apply zk)
 refine AWp.loop (fun v : Nat => ⟨[(0, spsI V sp), (1, natsI V R), (2, .i64 x), (3, .i64 y), (9, .i64 v)], []⟩) (fun v => v ≤ V ∧ ∀ j, j < v → anyB (fun w => R j == x && R w == y && mtF (sp j) (sp w)) V = false) (fun v => V - v) 0 ⟨Nat.zero_le _, fun j hj => absurd hj (Nat.not_lt_zero _)⟩ ?_ ?_
 ·repeat' (first|exact rfl|exact zt|apply zi)
 rintro v ⟨hv, hn⟩
 repeat (first|apply zq|apply zb|apply zk)
 apply zr;intro _
 repeat (first|apply zq|apply zb|apply zk)
 apply AWp.cond;apply zi<;>intro h1
 ·have hv' : v < V := zd h1
  repeat (first|apply zq|apply zb|apply zk)
  apply zr;intro _
  repeat (first|apply zq|apply zb|apply zk)
  refine AWp.loop (fun w : Nat => ⟨[(0, spsI V sp), (1, natsI V R), (2, .i64 x), (3, .i64 y), (9, .i64 v), (10, .i64 w)], []⟩) (fun w => w ≤ V ∧ ∀ j, j < w → (R v == x && R j == y && mtF (sp v) (sp j)) = false) (fun w => V - w) 0 ⟨Nat.zero_le _, fun j hj => absurd hj (Nat.not_lt_zero _)⟩ ?_ ?_
  ·repeat' (first|exact rfl|exact zt|apply zi)
  rintro w ⟨hw, hm⟩
  repeat (first|apply zq|apply zb|apply zk)
  apply zr;intro _
  repeat (first|apply zq|apply zb|apply zk)
  apply AWp.cond;apply zi<;>intro h2
  ·have hw' : w < V := zd h2
   repeat (first|apply zq|apply zb|apply zk)
   refine AWp.draw mixed (by kernel_rfl) ?_
   repeat' (first|exact zt|apply zi|refine CallK.intro (fun _ => c_spansMeet (sp v) (sp w) (hs v hv') (hs w hw')) ?_|fail)
   all_goals first|exact fun h => h|exact fun _ => nn (hv')|exact fun _ => nn (hw')|exact gT|exact gF|exact gN|exact gA|skip
   intro _
   repeat (first|apply zq|apply zb|apply zk)
   apply AWp.cond;apply zi<;>intro h3
   ·have h3 : (bif (bif ((R v : Int) == (x : Int)) then ((R w : Int) == (y : Int)) else false) then mtF (sp v) (sp w) else false) = true := h3
    rw [bif_and2, bif_and2, beq_nat, beq_nat] at h3
    repeat (first|apply zq|apply zb|apply zk)
    apply zr;intro _
    refine AWp.ret ⟨Or.inl rfl, rfl, ?_⟩
    intro _
    refine tupB (show true = mgF V sp R x y from ?_)
    exact (anyB_hit (p := fun v => anyB (fun w => R v == x && R w == y && mtF (sp v) (sp w)) V) hv' (anyB_hit (p := fun w => R v == x && R w == y && mtF (sp v) (sp w)) hw' h3)).symm
   have h3 : (bif (bif ((R v : Int) == (x : Int)) then ((R w : Int) == (y : Int)) else false) then mtF (sp v) (sp w) else false) = false := h3
   rw [bif_and2, bif_and2, beq_nat, beq_nat] at h3
   refine AWp.skip ?_
   repeat (first|apply zq|apply zb|apply zk)
   apply zr;intro _
   refine Exists.intro (w + 1) (zi ⟨hw', fun j hj => ?_⟩ (zi ?_ (by omega)))
   ·by_cases e : j = w
    ·subst e; exact h3
    ·exact hm j (by omega)
   ·repeat' (first|exact rfl|exact zt|exact zw hw' hV|apply zi)
  have hw3 : ¬ (w : Int) < V := of_decide_eq_false h2
  obtain rfl : w = V := by omega
  apply ze
  repeat (first|apply zq|apply zb|apply zk)
  apply zr;intro _
  refine Exists.intro (v + 1) (zi ⟨hv', fun j hj => ?_⟩ (zi ?_ (by omega)))
  ·by_cases e : j = v
   ·subst e; exact anyB_none hm
   ·exact hn j (by omega)
  ·repeat' (first|exact rfl|exact zt|exact zw hv' hV|apply zi)
 have hv3 : ¬ (v : Int) < V := of_decide_eq_false h1
 obtain rfl : v = V := by omega
 apply ze
 repeat (first|apply zq|apply zb|apply zk)
 apply zr;intro _
 refine AWp.ret ⟨Or.inl rfl, rfl, ?_⟩
 intro _
 refine tupB (show false = mgF v sp R x y from ?_)
 exact (anyB_none hn).symm
theorem spV_tail {A : List (Int × Int)} {i : Nat} (h : i < A.length) : AV.ro 2 (((A.drop i).length : Int) - 1).toNat (fun j => spC ((A.drop i).getD ((1 : Int).toNat + j) default)) = spV (A.drop (i + 1)) := by
 have e1 : (((A.drop i).length : Int) - 1).toNat = (A.drop (i + 1)).length := by rw [List.length_drop, List.length_drop]; omega
 have e2 : (fun j => spC ((A.drop i).getD ((1 : Int).toNat + j) default)) = fun j => spC ((A.drop (i + 1)).getD j default) := by
  funext j
  have : (A.drop i).getD ((1 : Int).toNat + j) default = (A.drop (i + 1)).getD j default := by
   rw [List.getD_eq_getElem?_getD, List.getD_eq_getElem?_getD, List.getElem?_drop, List.getElem?_drop, show i + ((1 : Int).toNat + j) = i + 1 + j by show i + (1 + j) = _; omega]
  rw [this]
 rw [e1, e2]
theorem drop_hd {A : List (Int × Int)} {i : Nat} (h : i < A.length) : A.drop i = (A.drop i).getD 0 default :: A.drop (i + 1) := by
 conv => lhs; rw [List.drop_eq_getElem_cons h]
 congr 1
 rw [List.getD_eq_getElem?_getD, List.getElem?_drop, List.getElem?_eq_getElem (by simpa using h)]
 rfl
set_option maxHeartbeats 4000000 in
theorem c_overlap (A B' : List (Int × Int)) : ACallIs B.P 16 [spV A, spV B'] (.bool (ovl A B')) := by
 refine ACallIs.enter B _ _ Tryz.func16 rfl rfl Tryz.ntmps16 Tryz.results16 rfl fun _ => ?_
 repeat (first|apply zq|apply zb|apply zk)
 apply zr;intro _
 repeat (first|apply zq|apply zb|apply zk)
 refine AWp.loop (fun s : Nat × Nat => ⟨[(0, spV (A.drop s.1)), (1, spV (B'.drop s.2))], []⟩) (fun s => s.1 ≤ A.length ∧ s.2 ≤ B'.length ∧ ovl A B' = ovl (A.drop s.1) (B'.drop s.2)) (fun s => A.length - s.1 + (B'.length - s.2)) (0, 0) ⟨Nat.zero_le _, Nat.zero_le _, rfl⟩ ?_ ?_
 ·repeat' (first|exact rfl|exact zt|apply zi)
 rintro ⟨i, k⟩ ⟨hi, hk, ho⟩
 dsimp only at hi hk ho
 show AWp B _ _ ⟨[(0, spV (A.drop i)), (1, spV (B'.drop k))], []⟩ _
 repeat (first|apply zq|apply zb|apply zk)
 apply zr
 repeat' (first|exact zt|apply zi|fail)
 all_goals first|exact fun h => h|exact gT|exact gF|exact gN|exact gA|skip
 intro _
 repeat (first|apply zq|apply zb|apply zk)
 apply AWp.cond;apply zi<;>intro h1
 ·have h1 : (bif decide (((A.drop i).length : Int) > 0) then decide (((B'.drop k).length : Int) > 0) else false) = true := h1
  rw [bif_and2, Bool.and_eq_true, decide_eq_true_eq, decide_eq_true_eq, List.length_drop, List.length_drop] at h1
  have hi' : i < A.length := by omega
  have hk' : k < B'.length := by omega
  have hlA : 0 < (A.drop i).length := by rw [List.length_drop]; omega
  have hlB : 0 < (B'.drop k).length := by rw [List.length_drop]; omega
  rw [drop_hd hi', drop_hd hk', ovl_cons] at ho
  repeat (first|apply zq|apply zb|apply zk)
  refine AWp.draw mixed (by kernel_rfl) ?_
  repeat' (first|exact zt|apply zi|fail)
  all_goals first|exact fun _ => zi (Int.le_refl 0) (Int.ofNat_lt.2 hlA)|exact fun _ => zi (Int.le_refl 0) (Int.ofNat_lt.2 hlB)|skip
  intro _
  repeat (first|apply zq|apply zb|apply zk)
  apply AWp.cond;apply zi<;>intro h2
  ·have h2 : ((A.drop i).getD 0 default).2 ≤ ((B'.drop k).getD 0 default).1 := of_decide_eq_true h2
   rw [if_pos h2, ← drop_hd hk'] at ho
   repeat (first|apply zq|apply zb|apply zk)
   apply zr
   repeat' (first|exact zt|apply zi|fail)
   all_goals first|(intro _; omega)|skip
   intro _
   refine Exists.intro (i + 1, k) (zi ⟨hi', hk, ho⟩ (zi ?_ (show A.length - (i + 1) + (B'.length - k) < A.length - i + (B'.length - k) by omega)))
   repeat' (first|exact rfl|exact zt|exact congrArg some (spV_tail hi')|apply zi)
  have h2 : ¬ ((A.drop i).getD 0 default).2 ≤ ((B'.drop k).getD 0 default).1 := of_decide_eq_false h2
  rw [if_neg h2] at ho
  repeat (first|apply zq|apply zb|apply zk)
  refine AWp.draw mixed (by kernel_rfl) ?_
  repeat' (first|exact zt|apply zi|fail)
  all_goals first|exact fun _ => zi (Int.le_refl 0) (Int.ofNat_lt.2 hlA)|exact fun _ => zi (Int.le_refl 0) (Int.ofNat_lt.2 hlB)|skip
  intro _
  repeat (first|apply zq|apply zb|apply zk)
  apply AWp.cond;apply zi<;>intro h3
  ·have h3 : ((B'.drop k).getD 0 default).2 ≤ ((A.drop i).getD 0 default).1 := of_decide_eq_true h3
   rw [if_pos h3, ← drop_hd hi'] at ho
   repeat (first|apply zq|apply zb|apply zk)
   apply zr
   repeat' (first|exact zt|apply zi|fail)
   all_goals first|(intro _; omega)|skip
   intro _
   refine Exists.intro (i, k + 1) (zi ⟨hi, hk', ho⟩ (zi ?_ (show A.length - i + (B'.length - (k + 1)) < A.length - i + (B'.length - k) by omega)))
   repeat' (first|exact rfl|exact zt|exact congrArg some (spV_tail hk')|apply zi)
  have h3 : ¬ ((B'.drop k).getD 0 default).2 ≤ ((A.drop i).getD 0 default).1 := of_decide_eq_false h3
  rw [if_neg h3] at ho
  repeat (first|apply zq|apply zb|apply zk)
  apply zr;intro _
  refine AWp.ret ⟨Or.inl rfl, rfl, ?_⟩
  intro _
  exact tupB (show true = ovl A B' from ho.symm)
 have h1 : (bif decide (((A.drop i).length : Int) > 0) then decide (((B'.drop k).length : Int) > 0) else false) = false := h1
 rw [bif_and2, Bool.and_eq_false_iff, decide_eq_false_iff_not, decide_eq_false_iff_not] at h1
 have hz : ovl (A.drop i) (B'.drop k) = false := by
  rcases h1 with h | h
  ·rw [List.length_eq_zero_iff.1 (show (A.drop i).length = 0 by omega)]; exact ovl_nil
  ·rw [List.length_eq_zero_iff.1 (show (B'.drop k).length = 0 by omega)]; exact ovl_nil2
 apply ze
 repeat (first|apply zq|apply zb|apply zk)
 apply zr;intro _
 refine AWp.ret ⟨Or.inl rfl, rfl, ?_⟩
 intro _
 exact tupB (show false = ovl A B' from (ho.trans hz).symm)
@[reducible] def hdRow (V : Nat) (R : Nat → Nat) : HO := .row 3 1 V (fun i => [.i64 (R i : Nat)])
theorem jnR_same {V : Nat} {sp : Nat → List (Int × Int)} {R : Nat → Nat} {a b : Nat} (h : R a = R b ∨ MtG V sp R (R a) (R b)) : jnR V sp R a b = R := by unfold jnR; rw [if_pos h]
theorem jnR_new {V : Nat} {sp : Nat → List (Int × Int)} {R : Nat → Nat} {a b : Nat} (h : ¬ (R a = R b ∨ MtG V sp R (R a) (R b))) : jnR V sp R a b = fun v => if R v = R a ∨ R v = R b then min (R a) (R b) else R v := by unfold jnR; rw [if_neg h]
theorem bif_or2 (a b : Bool) : (bif a then true else b) = (a || b) := by cases a <;> rfl
def upR (R J : Nat → Nat) (i j : Nat) : Nat := if j < i then J j else R j
set_option maxHeartbeats 4000000 in
theorem m_joinGroups (V : Nat) (sp : Nat → List (Int × Int)) (R : Nat → Nat) (a b : Nat) (hV : V ≤ maxLen) (hs : ∀ v, v < V → (sp v).length ≤ maxLen) (ha : a < V) (hb : b < V) : ACallM B.P 11 ⟨[spsI V sp, .sl 1001 V, .i64 a, .i64 b], [(1001, hdRow V R)], .tup [], [(1001, hdRow V (jnR V sp R a b))]⟩ := by
 have hg := c_groupsMeet V sp R (R a) (R b) hV hs
 refine ACallM.enter B _ _ Tryz.func11 rfl rfl Tryz.ntmps11 Tryz.results11 rfl ?_ fun _ => ?_
 ·refine zi ?_ (zi ?_ ?_)
  all_goals repeat' (first|exact rfl|exact zt|apply zi)
 repeat (first|apply zq|apply zb|apply zk)
 apply zr
 repeat' (first|exact zt|apply zi|fail)
 all_goals first|exact fun _ => nn ha|exact ha|exact fun _ => ha|skip
 intro _
 repeat (first|apply zq|apply zb|apply zk)
 apply zr
 repeat' (first|exact zt|apply zi|fail)
 all_goals first|exact fun _ => nn hb|exact hb|exact fun _ => hb|skip
 intro _
 repeat (first|apply zq|apply zb|apply zk)
 apply zr
 repeat' (first|exact zt|apply zi|refine CallK.intro (fun _ => hg) ?_|fail)
 all_goals first|exact fun h => h|exact gT|exact gF|exact gN|exact gA|skip
 intro _
 repeat (first|apply zq|apply zb|apply zk)
 apply AWp.cond;apply zi<;>intro h1
 ·have h1 : (bif ((R a : Int) == (R b : Int)) then true else mgF V sp R (R a) (R b)) = true := h1
  rw [bif_or2, beq_nat, Bool.or_eq_true, beq_iff_eq, mgF_iff] at h1
  refine AWp.ret ⟨Or.inl rfl, ?_⟩
  intro _
  rw [jnR_same h1]
  exact zi rfl (zi zt (zi ⟨_, _, rfl, rfl, zg⟩ (zi zt zt)))
 have h1 : ¬ (R a = R b ∨ MtG V sp R (R a) (R b)) := fun hh => by
  have h1 : (bif ((R a : Int) == (R b : Int)) then true else mgF V sp R (R a) (R b)) = false := h1
  rw [bif_or2, beq_nat] at h1
  have : (R a == R b || mgF V sp R (R a) (R b)) = true := by rw [Bool.or_eq_true, beq_iff_eq, mgF_iff]; exact hh
  rw [this] at h1; cases h1
 rw [jnR_new h1]
 obtain ⟨J, hJ⟩ : ∃ J, J = fun v => if R v = R a ∨ R v = R b then min (R a) (R b) else R v := ⟨_, rfl⟩
 rw [← hJ]
 refine AWp.skip ?_
 repeat (first|apply zq|apply zb|apply zk)
 apply zr;intro _
 repeat (first|apply zq|apply zb|apply zk)
 apply zr;intro _
 repeat (first|apply zq|apply zb|apply zk)
 refine AWp.mono (Q := fun e' t => e' = .normal ∧ Sub ⟨[(1, .sl 1001 V), (8, .i64 (R a : Nat)), (9, .i64 (R b : Nat)), (10, .i64 (min (R a) (R b) : Nat))], [(1001, hdRow V R)]⟩ t) ?_ ?_
 ·repeat (first|apply zq|apply zb|apply zk)
  apply AWp.cond;apply zi<;>intro h2
  ·have h2 : (R b : Int) < (R a : Int) := of_decide_eq_true h2
   repeat (first|apply zq|apply zb|apply zk)
   apply zr;intro _
   refine zi rfl (zi ?_ (zi ⟨_, _, rfl, rfl, zg⟩ (zi zt zt)))
   repeat' (first|exact rfl|exact zt|exact congrArg (fun z : Nat => some (AV.i64 z)) (show R b = min (R a) (R b) by omega)|apply zi)
  have h2 : ¬ (R b : Int) < (R a : Int) := of_decide_eq_false h2
  refine AWp.skip ?_
  refine zi rfl (zi ?_ (zi ⟨_, _, rfl, rfl, zg⟩ (zi zt zt)))
  repeat' (first|exact rfl|exact zt|exact congrArg (fun z : Nat => some (AV.i64 z)) (show R a = min (R a) (R b) by omega)|apply zi)
 rintro _ _ ⟨rfl, hs2⟩
 refine AWp.weaken hs2 ?_
 repeat (first|apply zq|apply zb|apply zk)
 apply zr;intro _
 repeat (first|apply zq|apply zb|apply zk)
 refine AWp.loop (fun i : Nat => ⟨[(1, .sl 1001 V), (8, .i64 (R a : Nat)), (9, .i64 (R b : Nat)), (10, .i64 (min (R a) (R b) : Nat)), (11, .i64 i)], [(1001, hdRow V (upR R J i))]⟩) (fun i => i ≤ V) (fun i => V - i) 0 (Nat.zero_le _) ?_ ?_
 ·refine zi ?_ (zi ⟨_, _, rfl, rfl, zg⟩ (zi zt zt))
  repeat' (first|exact rfl|exact zt|apply zi)
 intro i hi
 repeat (first|apply zq|apply zb|apply zk)
 apply zr;intro _
 repeat (first|apply zq|apply zb|apply zk)
 apply AWp.cond;apply zi<;>intro h3
 ·have hi' : i < V := zd h3
  have hu : upR R J i i = R i := if_neg (Nat.lt_irrefl _)
  repeat (first|apply zq|apply zb|apply zk)
  apply zr
  repeat' (first|exact zt|apply zi|fail)
  all_goals first|exact fun h => h|exact fun _ => nn (hi')|exact hi'|exact fun _ => hi'|exact gT|exact gF|exact gN|exact gA|skip
  intro _
  repeat (first|apply zq|apply zb|apply zk)
  apply AWp.cond;apply zi<;>intro h4
  ·have h4 : (bif ((upR R J i i : Int) == (R a : Int)) then true else ((upR R J i i : Int) == (R b : Int))) = true := h4
   rw [bif_or2, hu, beq_nat, beq_nat, Bool.or_eq_true, beq_iff_eq, beq_iff_eq] at h4
   have hJi : J i = min (R a) (R b) := by rw [hJ]; exact if_pos h4
   repeat (first|apply zq|apply zb|apply zk)
   apply zr
   repeat' (first|exact zt|apply zi|fail)
   all_goals first|exact fun _ => nn (hi')|exact hi'|exact fun _ => hi'|skip
   intro _
   repeat (first|apply zq|apply zb|apply zk)
   apply zr;intro _
   refine round_end (i + 1) hi' ?_ (by omega)
   refine zi ?_ (zi ⟨_, _, rfl, rfl, fun j hj => ?_⟩ (zi zt zt))
   ·repeat' (first|exact rfl|exact zt|exact zw hi' hV|apply zi)
   ·show [AV.i64 (upR R J (i + 1) j : Nat)] = if j = i then [AV.i64 (min (R a) (R b) : Nat)] else [AV.i64 (upR R J i j : Nat)]
    unfold upR
    by_cases e : j = i
    ·rw [if_pos e, if_pos (by omega), e, hJi]
    ·rw [if_neg e]
     by_cases e2 : j < i
     ·rw [if_pos (by omega), if_pos e2]
     ·rw [if_neg (by omega), if_neg e2]
  have h4 : (bif ((upR R J i i : Int) == (R a : Int)) then true else ((upR R J i i : Int) == (R b : Int))) = false := h4
  rw [bif_or2, hu, beq_nat, beq_nat, Bool.or_eq_false_iff, beq_eq_false_iff_ne, beq_eq_false_iff_ne] at h4
  have hJi : J i = R i := by rw [hJ]; exact if_neg (by omega)
  refine AWp.skip ?_
  repeat (first|apply zq|apply zb|apply zk)
  apply zr;intro _
  refine round_end (i + 1) hi' ?_ (by omega)
  refine zi ?_ (zi ⟨_, _, rfl, rfl, fun j hj => ?_⟩ (zi zt zt))
  ·repeat' (first|exact rfl|exact zt|exact zw hi' hV|apply zi)
  ·show [AV.i64 (upR R J (i + 1) j : Nat)] = [AV.i64 (upR R J i j : Nat)]
   unfold upR
   by_cases e : j = i
   ·rw [if_pos (by omega), if_neg (by omega), e, hJi]
   ·by_cases e2 : j < i
    ·rw [if_pos (by omega), if_pos e2]
    ·rw [if_neg (by omega), if_neg e2]
 have hi3 : ¬ (i : Int) < V := of_decide_eq_false h3
 obtain rfl : i = V := by omega
 apply ze
 refine ⟨Or.inr rfl, ?_⟩
 intro _
 refine zi rfl (zi zt (zi ⟨_, _, rfl, rfl, fun j hj => ?_⟩ (zi zt zt)))
 show [AV.i64 (J j : Nat)] = [AV.i64 (upR R J i j : Nat)]
 unfold upR
 rw [if_pos hj]
@[reducible] def gO (V F : Nat) (h : Nat → Nat) (G : Nat → List (Int × Int)) : List (Nat × HO) := [(1001, .cells [.sl 1002 V, .sl 1003 V]), (1002, hdRow V h), (1003, rowsS V F G), (F, famS V G)]
set_option maxHeartbeats 2000000 in
theorem m_find {V : Nat} {sp : Nat → List (Int × Int)} {R h : Nat → Nat} {G : Nat → List (Int × Int)} (I : GrI V sp R h G) (v0 : Nat) (hv0 : v0 < V) : ACallM B.P 9 ⟨[.obj 1001 0, .i64 v0], gO V 1004 h G, .i64 (R v0 : Nat), gO V 1004 h G⟩ := by
 refine ACallM.enter B _ _ Tryz.func9 rfl rfl Tryz.ntmps9 Tryz.results9 rfl ?_ fun _ => ?_
 ·refine zi (zi (zi rfl (zi rfl zt)) (zi zt (zi (fun i hi => zi ⟨i, hi, rfl⟩ zt) (zi (fun z hz => trivial) zt)))) (zi (zi rfl (zi zt zt)) (zi zt (zi zt (zi zt (zi (fun z hz => hz) zt)))))
 repeat (first|apply zq|apply zb|apply zk)
 apply zr;intro _
 repeat (first|apply zq|apply zb|apply zk)
 refine AWp.loop (fun v : Nat => ⟨[(0, .obj 1001 0), (1, .i64 v)], gO V 1004 h G⟩) (fun v => v < V ∧ R v = R v0) (fun v => v) v0 ⟨hv0, rfl⟩ ?_ ?_
 ·refine zi ?_ (zi rfl (zi (zi rfl (zi rfl zt)) (zi ⟨_, _, rfl, rfl, zg⟩ (zi zt (zi ⟨_, _, rfl, rfl, zg⟩ (zi (fun i hi => zi ⟨i, hi, rfl⟩ zt) (zi ⟨_, _, rfl, fun z hz => ⟨hz, _, _, rfl, rfl, fun i hi => rfl⟩⟩ (zi (fun z hz => trivial) zt))))))))
  repeat' (first|exact rfl|exact zt|apply zi)
 rintro v ⟨hv, hR⟩
 repeat (first|apply zq|apply zb|apply zk)
 apply zr
 repeat' (first|exact zt|apply zi|fail)
 all_goals first|exact fun _ => nn hv|exact hv|exact fun _ => hv|skip
 intro _
 repeat (first|apply zq|apply zb|apply zk)
 apply AWp.cond;apply zi<;>intro h1
 ·have h1 : ((h v : Int) != (v : Int)) = true := h1
  have h1 : h v ≠ v := fun e => by rw [e] at h1; simp at h1
  have hle := I.hle v hv
  repeat (first|apply zq|apply zb|apply zk)
  apply zr
  repeat' (first|exact zt|apply zi|fail)
  all_goals first|exact fun _ => nn hv|exact hv|exact fun _ => hv|skip
  intro _
  refine Exists.intro (h v) (zi ⟨by omega, by rw [I.hR v hv, hR]⟩ (zi ?_ (by omega)))
  refine zi ?_ (zi rfl (zi (zi rfl (zi rfl zt)) (zi ⟨_, _, rfl, rfl, zg⟩ (zi zt (zi ⟨_, _, rfl, rfl, zg⟩ (zi (fun i hi => zi ⟨i, hi, rfl⟩ zt) (zi ⟨_, _, rfl, fun z hz => ⟨hz, _, _, rfl, rfl, fun i hi => rfl⟩⟩ (zi (fun z hz => trivial) zt))))))))
  repeat' (first|exact rfl|exact zt|apply zi)
 have h1 : ((h v : Int) != (v : Int)) = false := h1
 have h1 : h v = v := Int.ofNat.inj (by simpa using h1)
 have hr := I.hfix v hv h1
 apply ze
 repeat (first|apply zq|apply zb|apply zk)
 apply zr;intro _
 refine AWp.ret ⟨Or.inl rfl, ?_⟩
 intro _
 rw [← hR, hr]
 exact zi rfl (zi zt (zi rfl (zi (zi rfl (zi rfl zt)) (zi ⟨_, _, rfl, rfl, zg⟩ (zi zt (zi ⟨_, _, rfl, rfl, zg⟩ (zi (fun i hi => zi ⟨i, hi, rfl⟩ zt) (zi ⟨_, _, rfl, fun z hz => ⟨hz, _, _, rfl, rfl, fun i hi => rfl⟩⟩ (zi (fun z hz => trivial) zt)))))))))
theorem _root_.Go.Abs.AWp.viaPost {B : Tabs} {n : Nat} {s : St} {Q : Exit → St → Prop} {c : Code} (h : AWp B n c s (fun e t => ∃ ρ s', Via ρ s' t ∧ Q e s')) : AWp B n c s Q := by
 unfold AWp at *
 exact fun cx hP hn a w hr => wp_mono (h cx hP hn a w hr) fun e a' w' ⟨t, ⟨ρ, s', hv, hq⟩, ht⟩ => ⟨s', hq, by obtain ⟨_, _, hr⟩ := ht; exact hr.via hv⟩
theorem snocsP {K M : List (Int × Int)} {i : Nat} (hi : i < (K ++ M).length) : spC ((K ++ M).getD i default) = if i < K.length then spC (K.getD i default) else spC (M.getD (i - K.length) default) := by
 by_cases e : i < K.length
 ·rw [if_pos e]
  simp only [List.getD_eq_getElem?_getD, List.getElem?_append_left e]
 ·rw [if_neg e]
  simp only [List.getD_eq_getElem?_getD, List.getElem?_append_right (Nat.le_of_not_lt e)]
def put2ρ (F x S y T : Nat) (nm : Nm) : Option Nm := bif Nat.beq nm.id F && decide (nm.ix = [x]) then some ⟨S, []⟩ else bif Nat.beq nm.id F && decide (nm.ix = [y]) then some ⟨T, []⟩ else some nm
theorem put2ρ_inj {F x S y T : Nat} {p : Nm → Prop} (h1 : ¬ p ⟨S, []⟩) (h2 : ¬ p ⟨T, []⟩) (hne : S ≠ T) : ∀ a b c : Nm, p a → p b → put2ρ F x S y T a = some c → put2ρ F x S y T b = some c → a = b := by
 rintro ⟨ai, ax⟩ ⟨bi, bx⟩ ⟨ci, cx⟩ pa pb ha hb
 unfold put2ρ at ha hb
 have d : ∀ {i : Nat} {ix z : List Nat}, (Nat.beq i F && decide (ix = z)) = true → i = F ∧ ix = z := fun {i ix z} h => by
  rw [Bool.and_eq_true, decide_eq_true_eq] at h
  exact ⟨Nat.eq_of_beq_eq_true h.1, h.2⟩
 cases a1 : Nat.beq ai F && decide (ax = [x]) <;> cases a2 : Nat.beq ai F && decide (ax = [y]) <;> cases b1 : Nat.beq bi F && decide (bx = [x]) <;> cases b2 : Nat.beq bi F && decide (bx = [y]) <;> simp only [a1, a2, b1, b2, cond_true, cond_false, Option.some.injEq, Nm.mk.injEq] at ha hb
 all_goals first
  | (rw [(d a1).1, (d a1).2, (d b1).1, (d b1).2]; done)
  | (rw [(d a2).1, (d a2).2, (d b2).1, (d b2).2]; done)
  | (exfalso; omega)
  | (exfalso; obtain ⟨q1, q2⟩ := ha; obtain ⟨q3, q4⟩ := hb; subst q1 q2 q3 q4; contradiction)
  | (obtain ⟨q1, q2⟩ := ha; obtain ⟨q3, q4⟩ := hb; subst q1 q2 q3 q4; rfl)
theorem put2ρ_old {F x S y T : Nat} (hF : F < 1000) (p : Nm → Prop) : ∀ a : Nm, p a → 1000 ≤ a.id → put2ρ F x S y T a = some a := by
 intro a _ ha
 unfold put2ρ
 cases h1 : Nat.beq a.id F with
 | false => rfl
 | true => have := Nat.eq_of_beq_eq_true h1; omega
theorem put2ρ_at {F x S y T : Nat} : put2ρ F x S y T ⟨F, [x]⟩ = some ⟨S, []⟩ := by unfold put2ρ; simp [Nat.beq_refl]
theorem put2ρ_at2 {F x S y T : Nat} (h : y ≠ x) : put2ρ F x S y T ⟨F, [y]⟩ = some ⟨T, []⟩ := by
 unfold put2ρ
 have : decide ([y] = [x]) = false := decide_eq_false fun h2 => h (by injection h2)
 simp [Nat.beq_refl, this, h]
theorem put2ρ_ne {F x S y T i : Nat} (h : i ≠ x) (h2 : i ≠ y) : put2ρ F x S y T ⟨F, [i]⟩ = some ⟨F, [i]⟩ := by
 unfold put2ρ
 simp [h, h2]
theorem ordL_len : ∀ {L : List (Int × Int)} {lo hi : Int}, OrdL L → (∀ p, p ∈ L → lo ≤ p.1 ∧ p.2 ≤ hi) → L = [] ∨ (L.length : Int) ≤ hi - lo
 | [], _, _, _, _ => .inl rfl
 | a :: r, lo, hi, h, hb => by
  have h1 := hb a List.mem_cons_self
  have h2 := h.2 a List.mem_cons_self
  have h3 := (List.pairwise_cons.1 h.1).1
  have ih := ordL_len (lo := a.2) (hi := hi) h.tail fun p hp => ⟨h3 p hp, (hb p (List.mem_cons_of_mem _ hp)).2⟩
  refine .inr ?_
  rcases ih with e | e
  ·subst e; simp only [List.length_cons, List.length_nil]; omega
  ·simp only [List.length_cons]; omega
theorem GrI.len {V : Nat} {sp : Nat → List (Int × Int)} {R h : Nat → Nat} {G : Nat → List (Int × Int)} (I : GrI V sp R h G) (hM : ∀ w, w < V → ∀ p, p ∈ sp w → 0 ≤ p.1 ∧ p.2 ≤ 5000) {v : Nat} (hv : v < V) (hr : R v = v) : (G v).length ≤ 5000 := by
 rcases ordL_len (lo := 0) (hi := 5000) (I.ord v hv hr) (fun p hp => by
  obtain ⟨w, hw, _, hq⟩ := (I.mem v hv hr p).1 hp
  exact hM w hw p hq) with e | e
 ·rw [e]; simp
 ·omega
set_option maxRecDepth 20000 in
set_option maxHeartbeats 16000000 in
theorem m_join {V : Nat} {sp : Nat → List (Int × Int)} {R h : Nat → Nat} {G : Nat → List (Int × Int)} (I : GrI V sp R h G) (hV : V ≤ 1000) (hM : ∀ w, w < V → ∀ p, p ∈ sp w → 0 ≤ p.1 ∧ p.2 ≤ 5000) (a b : Nat) (ha : a < V) (hb : b < V) : ∃ h' G', GrI V sp (jnR V sp R a b) h' G' ∧ ACallM B.P 8 ⟨[.obj 1001 0, .i64 a, .i64 b], gO V 1004 h G, .tup [], gO V 74 h' G'⟩ := by
 have hVm : V ≤ maxLen := by unfold maxLen; omega
 have ra := I.Rle a ha
 have rb := I.Rle b hb
 have hXV : R a < V := by omega
 have hYV : R b < V := by omega
 obtain ⟨h', G', hI', hk1, hk2⟩ : ∃ h' G', GrI V sp (jnR V sp R a b) h' G' ∧ ((R a = R b ∨ MtG V sp R (R a) (R b)) → h' = h ∧ G' = G) ∧ (¬ (R a = R b ∨ MtG V sp R (R a) (R b)) → ∃ S, (S.Perm (G (min (R a) (R b)) ++ G (max (R a) (R b))) ∧ ACallM B.P 17 ⟨[.sl ⟨1001, []⟩ (G (min (R a) (R b)) ++ G (max (R a) (R b))).length, .val (.func (.func 18) #[] #[])], [(1001, rowP (G (min (R a) (R b)) ++ G (max (R a) (R b))))], .tup [], [(1001, .row 63 2 (G (min (R a) (R b)) ++ G (max (R a) (R b))).length fun i => spC (S.getD i default))]⟩) ∧ h' = (fun v => if v = max (R a) (R b) then min (R a) (R b) else h v) ∧ G' = (fun v => if v = min (R a) (R b) then S else G v)) := by
  by_cases hq : R a = R b ∨ MtG V sp R (R a) (R b)
  ·exact ⟨h, G, by rw [jnR_same hq]; exact I, fun _ => ⟨rfl, rfl⟩, fun hn => absurd hq hn⟩
  ·have rlo : R (min (R a) (R b)) = min (R a) (R b) := by
    rcases Nat.le_total (R a) (R b) with e | e
    ·rw [Nat.min_eq_left e]; exact I.RR a ha
    ·rw [Nat.min_eq_right e]; exact I.RR b hb
   have rhi : R (max (R a) (R b)) = max (R a) (R b) := by
    rcases Nat.le_total (R a) (R b) with e | e
    ·rw [Nat.max_eq_right e]; exact I.RR b hb
    ·rw [Nat.max_eq_left e]; exact I.RR a ha
   have hg1 := I.len hM (show min (R a) (R b) < V by omega) rlo
   have hg2 := I.len hM (show max (R a) (R b) < V by omega) rhi
   obtain ⟨S, hp, hs, hc⟩ := c_SortSpan (G (min (R a) (R b)) ++ G (max (R a) (R b))) (by rw [List.length_append]; omega)
   exact ⟨_, _, I.join ha hb (fun e => hq (.inl e)) (fun e => hq (.inr e)) hp hs, fun hy => absurd hy hq, fun _ => ⟨S, ⟨hp, hc⟩, rfl, rfl⟩⟩
 refine ⟨h', G', hI', ?_⟩
 refine ACallM.enter B _ _ Tryz.func8 rfl rfl Tryz.ntmps8 Tryz.results8 rfl ?_ fun _ => ?_
 ·refine zi (zi (zi rfl (zi rfl zt)) (zi zt (zi (fun i hi => zi ⟨i, hi, rfl⟩ zt) (zi (fun z hz => trivial) zt)))) (zi (zi rfl (zi zt (zi zt zt))) (zi zt (zi zt (zi zt (zi zt zt)))))
 repeat (first|apply zq|apply zb|apply zk)
 apply zr
 repeat' (first|exact zt|apply zi|refine CallX.lend (m_find I a ha) [(1001, 1001), (1002, 1002), (1003, 1003), (1004, 1004)] rfl (zi rfl (zi rfl (zi rfl (zi rfl zt)))) rfl ?_|refine CallX.lend (m_find I b hb) [(1001, 1001), (1002, 1002), (1003, 1003), (1004, 1004)] rfl (zi rfl (zi rfl (zi rfl (zi rfl zt)))) rfl ?_|fail)
 intro _
 refine AWp.rename 1004 74 rfl rfl ?_
 by_cases hx : R a = R b
 ·rw [← hx]
  obtain ⟨r, rE, rN⟩ : ∃ r : Nat → List AV, r (R a) = [.sl 71 (G (R a)).length] ∧ ∀ i, i ≠ R a → r i = [.sl ⟨74, [i]⟩ (G i).length] := ⟨(fun i => if i = R a then [.sl 71 (G (R a)).length] else [.sl ⟨74, [i]⟩ (G i).length]), if_pos rfl, fun i h => if_neg h⟩
  refine AWp.via (takeρ 71 74 (R a)) ⟨[(0, .obj 1001 0), (6, .i64 (R a : Nat)), (7, .i64 (R a : Nat))], [(1001, .cells [.sl 1002 V, .sl 1003 V]), (1002, hdRow V h), (1003, .rows 66 1 V r), (74, .fam (fun ix => inD V ix ∧ ix ≠ [R a]) (fun ix => rowP (G (ix.headD 0)))), (71, rowP (G (R a)))]⟩ ?_ ?_
  ·refine ⟨?_, ?_, takeρ_inj (fun ix h => h) (fun h => h.2 rfl), takeρ_old (by decide) _⟩
   ·repeat' (first|exact rfl|exact zt|apply zi)
   ·refine zi (zi ⟨_, ⟨_, rfl, rfl, zt⟩, rfl⟩ (zi rfl (zi rfl zt))) (zi (zi ⟨_, ⟨_, rfl, rfl, zt⟩, Or.inl ⟨_, rfl, zg⟩⟩ zt) (zi (zi ⟨_, ⟨_, rfl, rfl, zt⟩, Or.inl ⟨_, rfl, fun i hi => ?_⟩⟩ (fun i hi => ?_)) (zi (fun ix hD => zi ⟨_, ⟨_, rfl, rfl, hD.1⟩, Or.inl ⟨_, rfl, zg⟩⟩ zt) (zi (zi ⟨_, ⟨_, rfl, rfl, ⟨_, hXV, rfl⟩⟩, Or.inl ⟨_, rfl, zg⟩⟩ zt) zt))))
    ·by_cases e : i = R a
     ·subst e; rw [rE]; rfl
     ·rw [rN i e]; rfl
    ·by_cases e : i = R a
     ·subst e; rw [rE]; exact zi rfl zt
     ·rw [rN i e]; exact zi ⟨⟨i, hi, rfl⟩, fun h => e (by injection h)⟩ zt
  have hrE' : r ((R a : Nat) : Int).toNat = [.sl 71 (G (R a)).length] := rE
  repeat (first|apply zq|apply zb|apply zk)
  refine AWp.draw mixed (by kernel_rfl) ?_
  repeat' (first|exact zt|apply zi|refine CallK.intro (fun _ => c_overlap (G (R a)) (G (R a))) ?_|fail)
  all_goals first|exact fun hh => hh|exact fun _ => nn hXV|exact fun _ => nn hYV|exact fun _ => hXV|exact fun _ => hYV|skip
  rw [hrE']
  repeat' (first|exact zt|apply zi|refine CallK.intro (fun _ => c_overlap (G (R a)) (G (R a))) ?_|fail)
  all_goals first|exact fun hh => hh|exact fun _ => nn hXV|exact fun _ => nn hYV|exact fun _ => hXV|exact fun _ => hYV|skip
  rw [hrE']
  repeat' (first|exact zt|apply zi|refine CallK.intro (fun _ => c_overlap (G (R a)) (G (R a))) ?_|fail)
  all_goals first|exact fun hh => hh|exact fun _ => nn hXV|exact fun _ => nn hYV|exact fun _ => hXV|exact fun _ => hYV|skip
  all_goals first|exact gT|exact gF|exact gN|exact gA|(intro hh; simpa using hh)|skip
  intro _
  repeat (first|apply zq|apply zb|apply zk)
  apply AWp.cond;apply zi<;>intro h1
  ·obtain ⟨k1, k2⟩ := hk1 (.inl hx)
   refine AWp.via (putρ 74 (R a) 71) ⟨[(0, .obj 1001 0), (6, .i64 (R a : Nat)), (7, .i64 (R a : Nat))], [(1001, .cells [.sl 1002 V, .sl 1003 V]), (1002, hdRow V h), (1003, rowsS V 74 G), (74, famS V G)]⟩ ?_ ?_
   ·refine ⟨?_, ?_, putρ_inj (fun h => h), putρ_old (by decide) _⟩
    ·repeat' (first|exact rfl|exact zt|apply zi)
    ·refine zi (zi ⟨_, ⟨_, rfl, rfl, zt⟩, rfl⟩ (zi rfl (zi rfl zt))) (zi (zi ⟨_, ⟨_, rfl, rfl, zt⟩, Or.inl ⟨_, rfl, zg⟩⟩ zt) (zi (zi ⟨_, ⟨_, rfl, rfl, zt⟩, Or.inl ⟨_, rfl, fun i hi => ?_⟩⟩ (fun i hi => zi ⟨i, hi, rfl⟩ zt)) (zi (fun ix hD => zi ?_ zt) zt)))
     ·by_cases e : i = R a
      ·subst e; rw [rE]
       show _ = [AV.rn (putρ 74 (R a) 71) (.sl ⟨74, [R a]⟩ (G (R a)).length)]
       simp only [AV.rn, putρ_at]
       rfl
      ·rw [rN i e]
       show _ = [AV.rn (putρ 74 (R a) 71) (.sl ⟨74, [i]⟩ (G i).length)]
       simp only [AV.rn, putρ_ne e]
     ·obtain ⟨i, hi, rfl⟩ := hD
      by_cases e : i = R a
      ·subst e
       unfold viaO
       rw [putρ_at]
       exact ⟨_, ⟨_, rfl, rfl, zt⟩, Or.inl ⟨_, rfl, zg⟩⟩
      ·unfold viaO
       rw [putρ_ne e]
       exact ⟨_, ⟨_, rfl, rfl, ⟨⟨i, hi, rfl⟩, fun h => e (by injection h)⟩⟩, Or.inl ⟨_, rfl, zg⟩⟩
   refine AWp.ret ⟨Or.inl rfl, ?_⟩
   intro _
   rw [k1, k2]
   exact zi rfl (zi zt (zi rfl (zi (zi rfl (zi rfl zt)) (zi ⟨_, _, rfl, rfl, zg⟩ (zi zt (zi ⟨_, _, rfl, rfl, zg⟩ (zi (fun i hi => zi ⟨i, hi, rfl⟩ zt) (zi ⟨_, _, rfl, fun z hz => ⟨hz, _, _, rfl, rfl, fun i hi => rfl⟩⟩ (zi (fun z hz => trivial) zt)))))))))
  ·exfalso
   have h1 : (bif ((R a : Int) == (R a : Int)) then true else ovl (G (R a)) (G (R a))) = false := h1
   simp at h1
 obtain ⟨r, rE, rN⟩ : ∃ r : Nat → List AV, r (R a) = [.sl 71 (G (R a)).length] ∧ ∀ i, i ≠ R a → r i = [.sl ⟨74, [i]⟩ (G i).length] := ⟨(fun i => if i = R a then [.sl 71 (G (R a)).length] else [.sl ⟨74, [i]⟩ (G i).length]), if_pos rfl, fun i h => if_neg h⟩
 refine AWp.via (takeρ 71 74 (R a)) ⟨[(0, .obj 1001 0), (6, .i64 (R a : Nat)), (7, .i64 (R b : Nat))], [(1001, .cells [.sl 1002 V, .sl 1003 V]), (1002, hdRow V h), (1003, .rows 66 1 V r), (74, .fam (fun ix => inD V ix ∧ ix ≠ [R a]) (fun ix => rowP (G (ix.headD 0)))), (71, rowP (G (R a)))]⟩ ?_ ?_
 ·refine ⟨?_, ?_, takeρ_inj (fun ix h => h) (fun h => h.2 rfl), takeρ_old (by decide) _⟩
  ·repeat' (first|exact rfl|exact zt|apply zi)
  ·refine zi (zi ⟨_, ⟨_, rfl, rfl, zt⟩, rfl⟩ (zi rfl (zi rfl zt))) (zi (zi ⟨_, ⟨_, rfl, rfl, zt⟩, Or.inl ⟨_, rfl, zg⟩⟩ zt) (zi (zi ⟨_, ⟨_, rfl, rfl, zt⟩, Or.inl ⟨_, rfl, fun i hi => ?_⟩⟩ (fun i hi => ?_)) (zi (fun ix hD => zi ⟨_, ⟨_, rfl, rfl, hD.1⟩, Or.inl ⟨_, rfl, zg⟩⟩ zt) (zi (zi ⟨_, ⟨_, rfl, rfl, ⟨_, hXV, rfl⟩⟩, Or.inl ⟨_, rfl, zg⟩⟩ zt) zt))))
   ·by_cases e : i = R a
    ·subst e; rw [rE]; rfl
    ·rw [rN i e]; rfl
   ·by_cases e : i = R a
    ·subst e; rw [rE]; exact zi rfl zt
    ·rw [rN i e]; exact zi ⟨⟨i, hi, rfl⟩, fun h => e (by injection h)⟩ zt
 obtain ⟨z, zE, zN⟩ : ∃ z : Nat → List AV, z (R b) = [.sl 72 (G (R b)).length] ∧ ∀ i, i ≠ R b → z i = r i := ⟨(fun i => if i = R b then [.sl 72 (G (R b)).length] else r i), if_pos rfl, fun i h => if_neg h⟩
 refine AWp.via (takeρ 72 74 (R b)) ⟨[(0, .obj 1001 0), (6, .i64 (R a : Nat)), (7, .i64 (R b : Nat))], [(1001, .cells [.sl 1002 V, .sl 1003 V]), (1002, hdRow V h), (1003, .rows 66 1 V z), (74, .fam (fun ix => inD V ix ∧ ix ≠ [R a] ∧ ix ≠ [R b]) (fun ix => rowP (G (ix.headD 0)))), (71, rowP (G (R a))), (72, rowP (G (R b)))]⟩ ?_ ?_
 ·refine ⟨?_, ?_, takeρ_inj (fun ix h => h) (fun h => h.2.2 rfl), takeρ_old (by decide) _⟩
  ·repeat' (first|exact rfl|exact zt|apply zi)
  ·refine zi (zi ⟨_, ⟨_, rfl, rfl, zt⟩, rfl⟩ (zi rfl (zi rfl zt))) (zi (zi ⟨_, ⟨_, rfl, rfl, zt⟩, Or.inl ⟨_, rfl, zg⟩⟩ zt) (zi (zi ⟨_, ⟨_, rfl, rfl, zt⟩, Or.inl ⟨_, rfl, fun i hi => ?_⟩⟩ (fun i hi => ?_)) (zi (fun ix hD => zi ⟨_, ⟨_, rfl, rfl, ⟨hD.1, hD.2.1⟩⟩, Or.inl ⟨_, rfl, zg⟩⟩ zt) (zi (zi ⟨_, ⟨_, rfl, rfl, zt⟩, Or.inl ⟨_, rfl, zg⟩⟩ zt) (zi (zi ⟨_, ⟨_, rfl, rfl, ⟨⟨_, hYV, rfl⟩, fun h => (Ne.symm hx) (by injection h)⟩⟩, Or.inl ⟨_, rfl, zg⟩⟩ zt) zt)))))
   ·by_cases e : i = R b
    ·subst e; rw [zE, rN _ (Ne.symm hx)]; rfl
    ·rw [zN i e]
     by_cases e2 : i = R a
     ·subst e2; rw [rE]; rfl
     ·rw [rN i e2]; rfl
   ·by_cases e : i = R b
    ·subst e; rw [zE]; exact zi rfl zt
    ·rw [zN i e]
     by_cases e2 : i = R a
     ·subst e2; rw [rE]; exact zi rfl zt
     ·rw [rN i e2]; exact zi ⟨⟨i, hi, rfl⟩, fun h => e2 (by injection h), fun h => e (by injection h)⟩ zt
 have hrE : z ((R a : Nat) : Int).toNat = [.sl 71 (G (R a)).length] := (zN (R a) hx).trans rE
 have hzE : z ((R b : Nat) : Int).toNat = [.sl 72 (G (R b)).length] := zE
 repeat (first|apply zq|apply zb|apply zk)
 refine AWp.draw mixed (by kernel_rfl) ?_
 repeat' (first|exact zt|apply zi|refine CallK.intro (fun _ => c_overlap (G (R a)) (G (R b))) ?_|fail)
 all_goals first|exact fun hh => hh|exact fun _ => nn hXV|exact fun _ => nn hYV|exact fun _ => hXV|exact fun _ => hYV|skip
 rw [hrE]
 repeat' (first|exact zt|apply zi|refine CallK.intro (fun _ => c_overlap (G (R a)) (G (R b))) ?_|fail)
 all_goals first|exact fun hh => hh|exact fun _ => nn hXV|exact fun _ => nn hYV|exact fun _ => hXV|exact fun _ => hYV|skip
 rw [hzE]
 repeat' (first|exact zt|apply zi|refine CallK.intro (fun _ => c_overlap (G (R a)) (G (R b))) ?_|fail)
 all_goals first|exact fun hh => hh|exact fun _ => nn hXV|exact fun _ => nn hYV|exact fun _ => hXV|exact fun _ => hYV|skip
 all_goals first|exact gT|exact gF|exact gN|exact gA|(intro hh; simpa using hh)|skip
 intro _
 repeat (first|apply zq|apply zb|apply zk)
 apply AWp.cond;apply zi<;>intro h1
 ·have h1 : (bif ((R a : Int) == (R b : Int)) then true else ovl (G (R a)) (G (R b))) = true := h1
  rw [bif_or2, beq_nat, Bool.or_eq_true, beq_iff_eq, I.meet ha hb] at h1
  obtain ⟨k1, k2⟩ := hk1 h1
  refine AWp.via (put2ρ 74 (R a) 71 (R b) 72) ⟨[(0, .obj 1001 0), (6, .i64 (R a : Nat)), (7, .i64 (R b : Nat))], [(1001, .cells [.sl 1002 V, .sl 1003 V]), (1002, hdRow V h), (1003, rowsS V 74 G), (74, famS V G)]⟩ ?_ ?_
  ·refine ⟨?_, ?_, put2ρ_inj (fun h => h) (fun h => h) (by decide), put2ρ_old (by decide) _⟩
   ·repeat' (first|exact rfl|exact zt|apply zi)
   ·refine zi (zi ⟨_, ⟨_, rfl, rfl, zt⟩, rfl⟩ (zi rfl (zi rfl zt))) (zi (zi ⟨_, ⟨_, rfl, rfl, zt⟩, Or.inl ⟨_, rfl, zg⟩⟩ zt) (zi (zi ⟨_, ⟨_, rfl, rfl, zt⟩, Or.inl ⟨_, rfl, fun i hi => ?_⟩⟩ (fun i hi => zi ⟨i, hi, rfl⟩ zt)) (zi (fun ix hD => zi ?_ zt) zt)))
    ·show z i = [AV.rn (put2ρ 74 (R a) 71 (R b) 72) (.sl ⟨74, [i]⟩ (G i).length)]
     by_cases e : i = R a
     ·subst e; rw [zN _ hx, rE]
      simp only [AV.rn, put2ρ_at]
      rfl
     ·by_cases e2 : i = R b
      ·subst e2; rw [zE]
       simp only [AV.rn, put2ρ_at2 (Ne.symm hx)]
       rfl
      ·rw [zN i e2, rN i e]
       simp only [AV.rn, put2ρ_ne e e2]
    ·obtain ⟨i, hi, rfl⟩ := hD
     unfold viaO
     by_cases e : i = R a
     ·subst e
      rw [put2ρ_at]
      exact ⟨_, ⟨_, rfl, rfl, zt⟩, Or.inl ⟨_, rfl, zg⟩⟩
     ·by_cases e2 : i = R b
      ·subst e2
       rw [put2ρ_at2 (Ne.symm hx)]
       exact ⟨_, ⟨_, rfl, rfl, zt⟩, Or.inl ⟨_, rfl, zg⟩⟩
      ·rw [put2ρ_ne e e2]
       exact ⟨_, ⟨_, rfl, rfl, ⟨⟨i, hi, rfl⟩, fun h => e (by injection h), fun h => e2 (by injection h)⟩⟩, Or.inl ⟨_, rfl, zg⟩⟩
  refine AWp.ret ⟨Or.inl rfl, ?_⟩
  intro _
  rw [k1, k2]
  exact zi rfl (zi zt (zi rfl (zi (zi rfl (zi rfl zt)) (zi ⟨_, _, rfl, rfl, zg⟩ (zi zt (zi ⟨_, _, rfl, rfl, zg⟩ (zi (fun i hi => zi ⟨i, hi, rfl⟩ zt) (zi ⟨_, _, rfl, fun z hz => ⟨hz, _, _, rfl, rfl, fun i hi => rfl⟩⟩ (zi (fun z hz => trivial) zt)))))))))
 have h1 : ¬ (R a = R b ∨ MtG V sp R (R a) (R b)) := fun hh => by
  have h1 : (bif ((R a : Int) == (R b : Int)) then true else ovl (G (R a)) (G (R b))) = false := h1
  rw [bif_or2, beq_nat] at h1
  have : (R a == R b || ovl (G (R a)) (G (R b))) = true := by rw [Bool.or_eq_true, beq_iff_eq, I.meet ha hb]; exact hh
  rw [this] at h1; cases h1
 obtain ⟨S, hS, k1, k2⟩ := hk2 h1
 refine AWp.via (put2ρ 74 (R a) 71 (R b) 72) ⟨[(0, .obj 1001 0), (6, .i64 (R a : Nat)), (7, .i64 (R b : Nat))], [(1001, .cells [.sl 1002 V, .sl 1003 V]), (1002, hdRow V h), (1003, rowsS V 74 G), (74, famS V G)]⟩ ?_ ?_
 ·refine ⟨?_, ?_, put2ρ_inj (fun h => h) (fun h => h) (by decide), put2ρ_old (by decide) _⟩
  ·repeat' (first|exact rfl|exact zt|apply zi)
  ·refine zi (zi ⟨_, ⟨_, rfl, rfl, zt⟩, rfl⟩ (zi rfl (zi rfl zt))) (zi (zi ⟨_, ⟨_, rfl, rfl, zt⟩, Or.inl ⟨_, rfl, zg⟩⟩ zt) (zi (zi ⟨_, ⟨_, rfl, rfl, zt⟩, Or.inl ⟨_, rfl, fun i hi => ?_⟩⟩ (fun i hi => zi ⟨i, hi, rfl⟩ zt)) (zi (fun ix hD => zi ?_ zt) zt)))
   ·show z i = [AV.rn (put2ρ 74 (R a) 71 (R b) 72) (.sl ⟨74, [i]⟩ (G i).length)]
    by_cases e : i = R a
    ·subst e; rw [zN _ hx, rE]
     simp only [AV.rn, put2ρ_at]
     rfl
    ·by_cases e2 : i = R b
     ·subst e2; rw [zE]
      simp only [AV.rn, put2ρ_at2 (Ne.symm hx)]
      rfl
     ·rw [zN i e2, rN i e]
      simp only [AV.rn, put2ρ_ne e e2]
   ·obtain ⟨i, hi, rfl⟩ := hD
    unfold viaO
    by_cases e : i = R a
    ·subst e
     rw [put2ρ_at]
     exact ⟨_, ⟨_, rfl, rfl, zt⟩, Or.inl ⟨_, rfl, zg⟩⟩
    ·by_cases e2 : i = R b
     ·subst e2
      rw [put2ρ_at2 (Ne.symm hx)]
      exact ⟨_, ⟨_, rfl, rfl, zt⟩, Or.inl ⟨_, rfl, zg⟩⟩
     ·rw [put2ρ_ne e e2]
      exact ⟨_, ⟨_, rfl, rfl, ⟨⟨i, hi, rfl⟩, fun h => e (by injection h), fun h => e2 (by injection h)⟩⟩, Or.inl ⟨_, rfl, zg⟩⟩
 obtain ⟨lo, hlo⟩ : ∃ lo, lo = min (R a) (R b) := ⟨_, rfl⟩
 obtain ⟨ub, hhi⟩ : ∃ ub, ub = max (R a) (R b) := ⟨_, rfl⟩
 have hlh : lo < ub := by omega
 have hloV : lo < V := by omega
 have hhiV : ub < V := by omega
 have rlo : R lo = lo := by
  rcases Nat.le_total (R a) (R b) with e | e
  ·rw [hlo, Nat.min_eq_left e]; exact I.RR a ha
  ·rw [hlo, Nat.min_eq_right e]; exact I.RR b hb
 have rhi : R ub = ub := by
  rcases Nat.le_total (R a) (R b) with e | e
  ·rw [hhi, Nat.max_eq_right e]; exact I.RR b hb
  ·rw [hhi, Nat.max_eq_left e]; exact I.RR a ha
 have hg1 := I.len hM hloV rlo
 have hg2 := I.len hM hhiV rhi
 obtain ⟨hp, hc⟩ := hS
 rw [← hlo, ← hhi] at k1 hc
 rw [← hlo] at k2
 refine AWp.skip ?_
 repeat (first|apply zq|apply zb|apply zk)
 apply zr
 repeat' (first|exact zt|apply zi|fail)
 intro _
 refine AWp.weaken (s' := ⟨[(0, .obj 1001 0), (6, .i64 (lo : Nat)), (7, .i64 (ub : Nat))], gO V 74 h G⟩) ?_ ?_
 ·refine zi ?_ (zi rfl (zi (zi rfl (zi rfl zt)) (zi ⟨_, _, rfl, rfl, zg⟩ (zi zt (zi ⟨_, _, rfl, rfl, zg⟩ (zi (fun i hi => zi ⟨i, hi, rfl⟩ zt) (zi ⟨_, _, rfl, fun z hz => ⟨hz, _, _, rfl, rfl, fun i hi => rfl⟩⟩ (zi (fun z hz => trivial) zt))))))))
  repeat' (first|exact rfl|exact zt|exact congrArg (fun z : Int => some (AV.i64 z)) (show min (R a : Int) (R b : Int) = ((lo : Nat) : Int) by omega)|exact congrArg (fun z : Int => some (AV.i64 z)) (show max (R a : Int) (R b : Int) = ((ub : Nat) : Int) by omega)|apply zi)
 repeat (first|apply zq|apply zb|apply zk)
 apply zr
 repeat' (first|exact zt|apply zi|fail)
 all_goals first|exact fun _ => nn hhiV|exact hhiV|exact fun _ => hhiV|skip
 intro _
 refine AWp.weaken (s' := ⟨[(0, .obj 1001 0), (6, .i64 (lo : Nat)), (7, .i64 (ub : Nat)), (43, .sl 1002 V)], gO V 74 h' G⟩) ?_ ?_
 ·refine zi ?_ (zi rfl (zi (zi rfl (zi rfl zt)) (zi ⟨_, _, rfl, rfl, fun j hj => ?_⟩ (zi zt (zi ⟨_, _, rfl, rfl, zg⟩ (zi (fun i ub => zi ⟨i, ub, rfl⟩ zt) (zi ⟨_, _, rfl, fun z hz => ⟨hz, _, _, rfl, rfl, fun i ub => rfl⟩⟩ (zi (fun z hz => trivial) zt))))))))
  ·repeat' (first|exact rfl|exact zt|apply zi)
  ·show [AV.i64 (h' j : Nat)] = if j = ub then [AV.i64 (lo : Nat)] else [AV.i64 (h j : Nat)]
   rw [k1]
   by_cases e : j = ub
   ·simp only [if_pos e]
   ·simp only [if_neg e]
 obtain ⟨r, rE, rN⟩ : ∃ r : Nat → List AV, r (lo) = [.sl 71 (G (lo)).length] ∧ ∀ i, i ≠ lo → r i = [.sl ⟨74, [i]⟩ (G i).length] := ⟨(fun i => if i = lo then [.sl 71 (G (lo)).length] else [.sl ⟨74, [i]⟩ (G i).length]), if_pos rfl, fun i h => if_neg h⟩
 refine AWp.via (takeρ 71 74 (lo)) ⟨[(0, .obj 1001 0), (6, .i64 (lo : Nat)), (7, .i64 (ub : Nat)), (43, .sl 1002 V)], [(1001, .cells [.sl 1002 V, .sl 1003 V]), (1002, hdRow V h'), (1003, .rows 66 1 V r), (74, .fam (fun ix => inD V ix ∧ ix ≠ [lo]) (fun ix => rowP (G (ix.headD 0)))), (71, rowP (G (lo)))]⟩ ?_ ?_
 ·refine ⟨?_, ?_, takeρ_inj (fun ix h => h) (fun h => h.2 rfl), takeρ_old (by decide) _⟩
  ·repeat' (first|exact rfl|exact zt|apply zi)
  ·refine zi (zi ⟨_, ⟨_, rfl, rfl, zt⟩, rfl⟩ (zi rfl (zi rfl zt))) (zi (zi ⟨_, ⟨_, rfl, rfl, zt⟩, Or.inl ⟨_, rfl, zg⟩⟩ zt) (zi (zi ⟨_, ⟨_, rfl, rfl, zt⟩, Or.inl ⟨_, rfl, fun i hi => ?_⟩⟩ (fun i hi => ?_)) (zi (fun ix hD => zi ⟨_, ⟨_, rfl, rfl, hD.1⟩, Or.inl ⟨_, rfl, zg⟩⟩ zt) (zi (zi ⟨_, ⟨_, rfl, rfl, ⟨_, hloV, rfl⟩⟩, Or.inl ⟨_, rfl, zg⟩⟩ zt) zt))))
   ·by_cases e : i = lo
    ·subst e; rw [rE]; rfl
    ·rw [rN i e]; rfl
   ·by_cases e : i = lo
    ·subst e; rw [rE]; exact zi rfl zt
    ·rw [rN i e]; exact zi ⟨⟨i, hi, rfl⟩, fun h => e (by injection h)⟩ zt
 obtain ⟨z, zE, zN⟩ : ∃ z : Nat → List AV, z (ub) = [.sl 72 (G (ub)).length] ∧ ∀ i, i ≠ ub → z i = r i := ⟨(fun i => if i = ub then [.sl 72 (G (ub)).length] else r i), if_pos rfl, fun i h => if_neg h⟩
 refine AWp.via (takeρ 72 74 (ub)) ⟨[(0, .obj 1001 0), (6, .i64 (lo : Nat)), (7, .i64 (ub : Nat)), (43, .sl 1002 V)], [(1001, .cells [.sl 1002 V, .sl 1003 V]), (1002, hdRow V h'), (1003, .rows 66 1 V z), (74, .fam (fun ix => inD V ix ∧ ix ≠ [lo] ∧ ix ≠ [ub]) (fun ix => rowP (G (ix.headD 0)))), (71, rowP (G (lo))), (72, rowP (G (ub)))]⟩ ?_ ?_
 ·refine ⟨?_, ?_, takeρ_inj (fun ix h => h) (fun h => h.2.2 rfl), takeρ_old (by decide) _⟩
  ·repeat' (first|exact rfl|exact zt|apply zi)
  ·refine zi (zi ⟨_, ⟨_, rfl, rfl, zt⟩, rfl⟩ (zi rfl (zi rfl zt))) (zi (zi ⟨_, ⟨_, rfl, rfl, zt⟩, Or.inl ⟨_, rfl, zg⟩⟩ zt) (zi (zi ⟨_, ⟨_, rfl, rfl, zt⟩, Or.inl ⟨_, rfl, fun i hi => ?_⟩⟩ (fun i hi => ?_)) (zi (fun ix hD => zi ⟨_, ⟨_, rfl, rfl, ⟨hD.1, hD.2.1⟩⟩, Or.inl ⟨_, rfl, zg⟩⟩ zt) (zi (zi ⟨_, ⟨_, rfl, rfl, zt⟩, Or.inl ⟨_, rfl, zg⟩⟩ zt) (zi (zi ⟨_, ⟨_, rfl, rfl, ⟨⟨_, hhiV, rfl⟩, fun h => (Nat.ne_of_gt hlh) (by injection h)⟩⟩, Or.inl ⟨_, rfl, zg⟩⟩ zt) zt)))))
   ·by_cases e : i = ub
    ·subst e; rw [zE, rN _ (Nat.ne_of_gt hlh)]; rfl
    ·rw [zN i e]
     by_cases e2 : i = lo
     ·subst e2; rw [rE]; rfl
     ·rw [rN i e2]; rfl
   ·by_cases e : i = ub
    ·subst e; rw [zE]; exact zi rfl zt
    ·rw [zN i e]
     by_cases e2 : i = lo
     ·subst e2; rw [rE]; exact zi rfl zt
     ·rw [rN i e2]; exact zi ⟨⟨i, hi, rfl⟩, fun h => e2 (by injection h), fun h => e (by injection h)⟩ zt
 have hrE : z ((lo : Nat) : Int).toNat = [.sl 71 (G lo).length] := (zN lo (Nat.ne_of_lt hlh)).trans rE
 have hzE : z ((ub : Nat) : Int).toNat = [.sl 72 (G ub).length] := zE
 repeat (first|apply zq|apply zb|apply zk)
 refine AWp.quietU (.q 0 [] (.q 1 [1001, 1002] (.q 2 [1001] (.q 3 [1001] (.q 4 [] (.q 5 [] (.q 6 [1001] (.q 7 [1001] (.q 8 [1001] (.q 9 [] (.q 10 [1003] (.q 11 [1003] (.q 12 [] (.q 13 [1001] (.q 14 [1001] (.q 15 [1001] (.q 16 [] (.q 17 [1003] (.q 18 [1003] (.k 19 [1001, 1002] (.q 20 [1003] (.k 21 [] .fin .no)) .no)))))))))))))))))))) [(0, []), (1, [1001, 1002]), (2, [1001]), (3, [1001]), (4, []), (5, []), (6, [1001]), (7, [1001]), (8, [1001]), (9, []), (10, [1003]), (11, [1003]), (12, []), (13, [1001]), (14, [1001]), (15, [1001]), (16, []), (17, [1003]), (18, [1003]), (20, [1003])] mixed (by kernel_rfl) ?_
 repeat' (first|exact zt|apply zi|fail)
 all_goals first|exact fun hh => hh|exact fun _ => nn hloV|exact fun _ => nn hhiV|exact fun _ => hloV|exact fun _ => hhiV|skip
 all_goals (try simp only [hrE, hzE])
 repeat' (first|exact zt|apply zi|fail)
 all_goals first|exact fun hh => hh|exact fun _ => nn hloV|exact fun _ => nn hhiV|exact fun _ => hloV|exact fun _ => hhiV|exact fun _ _ => rfl|exact rfl|(rw [Nat.mul_comm]; omega)|skip
 all_goals (try simp only [hrE, hzE])
 repeat' (first|exact zt|apply zi|fail)
 all_goals first|exact fun hh => hh|exact fun _ => nn hloV|exact fun _ => nn hhiV|exact fun _ => hloV|exact fun _ => hhiV|exact fun _ _ => rfl|exact rfl|(rw [Nat.mul_comm]; omega)|skip
 all_goals (try simp only [hrE, hzE])
 repeat' (first|exact zt|apply zi|fail)
 all_goals first|exact fun hh => hh|exact fun _ => nn hloV|exact fun _ => nn hhiV|exact fun _ => hloV|exact fun _ => hhiV|exact fun _ _ => rfl|exact rfl|(rw [Nat.mul_comm]; omega)|skip
 all_goals first|exact Nat.le_refl _|exact hloV|skip
 intro _
 obtain ⟨q, qE, qU, qN⟩ : ∃ q : Nat → List AV, q lo = [.sl 66 (G lo ++ G ub).length] ∧ q ub = [.sl 72 (G ub).length] ∧ ∀ i, i ≠ lo → i ≠ ub → q i = [.sl ⟨74, [i]⟩ (G i).length] := ⟨(fun i => if i = lo then [.sl 66 (G lo ++ G ub).length] else if i = ub then [.sl 72 (G ub).length] else [.sl ⟨74, [i]⟩ (G i).length]), if_pos rfl, (if_neg (Nat.ne_of_gt hlh)).trans (if_pos rfl), fun i h1 h2 => (if_neg h1).trans (if_neg h2)⟩
 refine AWp.via some ⟨[(0, .obj 1001 0), (6, .i64 (lo : Nat)), (7, .i64 (ub : Nat))], [(1001, .cells [.sl 1002 V, .sl 1003 V]), (1002, hdRow V h'), (1003, .rows 66 1 V q), (74, .fam (fun ix => inD V ix ∧ ix ≠ [lo] ∧ ix ≠ [ub]) (fun ix => rowP (G (ix.headD 0)))), (72, rowP (G ub)), (66, rowP (G lo ++ G ub))]⟩ ⟨?_, ?_, fun a b c _ _ ha hb => Option.some.inj (ha.trans hb.symm), fun a _ _ => rfl⟩ ?_
 ·repeat' (first|exact rfl|exact zt|apply zi)
 ·refine zi (zi ⟨_, ⟨_, rfl, rfl, zt⟩, ?_⟩ (zi rfl (zi rfl zt))) (zi (zi ⟨_, ⟨_, rfl, rfl, zt⟩, Or.inl ⟨_, rfl, zg⟩⟩ zt) (zi (zi ⟨_, ⟨_, rfl, rfl, zt⟩, Or.inl ⟨_, rfl, fun i hi => ?_⟩⟩ (fun i hi => ?_)) (zi (fun ix hD => zi ⟨_, ⟨_, rfl, rfl, hD⟩, Or.inl ⟨_, rfl, zg⟩⟩ zt) (zi (zi ⟨_, ⟨_, rfl, rfl, zt⟩, Or.inl ⟨_, rfl, zg⟩⟩ zt) (zi (zi ⟨_, ⟨_, rfl, rfl, zt⟩, Or.inl ⟨_, congrArg (fun n => HO.row 63 2 n _) (List.length_append).symm, fun j hj => ?_⟩⟩ zt) zt)))))
  ·rfl
  ·by_cases e : i = lo
   ·subst e
    rw [qE]
    simp only [Int.toNat_natCast, if_true, List.length_append]
    rfl
   ·simp only [Int.toNat_natCast, if_neg e]
    by_cases e2 : i = ub
    ·subst e2; rw [qU, zE]; rfl
    ·rw [qN i e e2, zN i e2, rN i e]; rfl
  ·by_cases e : i = lo
   ·subst e; rw [qE]; exact zi rfl zt
   ·by_cases e2 : i = ub
    ·subst e2; rw [qU]; exact zi rfl zt
    ·rw [qN i e e2]; exact zi ⟨⟨i, hi, rfl⟩, fun h => e (by injection h), fun h => e2 (by injection h)⟩ zt
  ·exact (snocsP hj).symm
 refine AWp.viaPost ?_
 repeat (first|apply zq|apply zb|apply zk)
 apply zr
 repeat' (first|exact zt|apply zi|fail)
 all_goals first|exact fun hh => hh|exact fun _ => nn hloV|exact fun _ => hloV|exact hloV|skip
 have qE' : q ((lo : Nat) : Int).toNat = [.sl 66 (G lo ++ G ub).length] := qE
 rw [qE']
 refine CallX.lend hc [(1001, 66)] rfl (zi rfl zt) rfl ?_
 intro _
 have hpl : S.length = (G lo ++ G ub).length := by rw [← hlo, ← hhi] at hp; exact hp.length_eq
 have gl : G' lo = S := by rw [k2]; exact if_pos rfl
 have gn : ∀ i, i ≠ lo → G' i = G i := fun i hi => by rw [k2]; exact if_neg hi
 refine ⟨put2ρ 74 lo 66 ub 72, ⟨[], gO V 74 h' G'⟩, ⟨zt, ?_, put2ρ_inj (fun h => h) (fun h => h) (by decide), put2ρ_old (by decide) _⟩, Or.inr rfl, fun _ => zi rfl (zi zt (zi rfl (zi (zi rfl (zi rfl zt)) (zi ⟨_, _, rfl, rfl, zg⟩ (zi zt (zi ⟨_, _, rfl, rfl, zg⟩ (zi (fun i hi => zi ⟨i, hi, rfl⟩ zt) (zi ⟨_, _, rfl, fun z hz => ⟨hz, _, _, rfl, rfl, fun i hi => rfl⟩⟩ (zi (fun z hz => trivial) zt)))))))))⟩
 refine zi (zi ⟨_, ⟨_, rfl, rfl, zt⟩, rfl⟩ (zi rfl (zi rfl zt))) (zi (zi ⟨_, ⟨_, rfl, rfl, zt⟩, Or.inl ⟨_, rfl, zg⟩⟩ zt) (zi (zi ⟨_, ⟨_, rfl, rfl, zt⟩, Or.inl ⟨_, rfl, fun i hi => ?_⟩⟩ (fun i hi => zi ⟨i, hi, rfl⟩ zt)) (zi (fun ix hD => zi ?_ zt) zt)))
 ·by_cases e : i = lo
  ·subst e; rw [qE]
   show [AV.sl 66 (G i ++ G ub).length] = [AV.rn (put2ρ 74 i 66 ub 72) (.sl ⟨74, [i]⟩ (G' i).length)]
   rw [gl, hpl]
   simp only [AV.rn, put2ρ_at]
   rfl
  ·by_cases e2 : i = ub
   ·subst e2; rw [qU]
    show [AV.sl 72 (G i).length] = [AV.rn (put2ρ 74 lo 66 i 72) (.sl ⟨74, [i]⟩ (G' i).length)]
    rw [gn _ e]
    simp only [AV.rn, put2ρ_at2 e]
    rfl
   ·rw [qN i e e2]
    show [AV.sl ⟨74, [i]⟩ (G i).length] = [AV.rn (put2ρ 74 lo 66 ub 72) (.sl ⟨74, [i]⟩ (G' i).length)]
    rw [gn _ e]
    simp only [AV.rn, put2ρ_ne e e2]
 ·obtain ⟨i, hi, rfl⟩ := hD
  unfold viaO
  by_cases e : i = lo
  ·subst e
   rw [put2ρ_at]
   refine ⟨_, ⟨_, rfl, rfl, zt⟩, ?_⟩
   show via1 _ _ (rowP (G' i))
   rw [gl]
   exact Or.inl ⟨_, congrArg (fun n => HO.row 63 2 n _) hpl.symm, fun j hj => rfl⟩
  ·by_cases e2 : i = ub
   ·subst e2
    rw [put2ρ_at2 e]
    refine ⟨_, ⟨_, rfl, rfl, zt⟩, ?_⟩
    show via1 _ _ (rowP (G' i))
    rw [gn _ e]
    exact Or.inl ⟨_, rfl, zg⟩
   ·rw [put2ρ_ne e e2]
    refine ⟨_, ⟨_, rfl, rfl, ⟨⟨i, hi, rfl⟩, fun h => e (by injection h), fun h => e2 (by injection h)⟩⟩, ?_⟩
    show via1 _ _ (rowP (G' i))
    rw [gn _ e]
    exact Or.inl ⟨_, rfl, zg⟩
structure GrOk (f : Fun) : Prop where
 reu : ∀ b i k, b < f.Blocks.length → i < (blkA f b).Instrs.length → k < ((blkA f b).Instrs.getD i default).Operands.length → (((blkA f b).Instrs.getD i default).Operands.getD k default).Limit = 5 → 0 ≤ (((blkA f b).Instrs.getD i default).Operands.getD k default).N ∧ (((blkA f b).Instrs.getD i default).Operands.getD k default).N < ((blkA f b).Instrs.getD i default).Operands.length
 bv : ∀ b, b < f.Blocks.length → BlkV f.Values.length (blkA f b)
 args : ∀ b j, b < f.Blocks.length → j < (blkA f b).Edges.length → ((blkA f b).Edges.getD j default).Args.length = (edgP f ((blkA f b).Edges.getD j default)).length
 argv : ∀ b j a, b < f.Blocks.length → j < (blkA f b).Edges.length → a < ((blkA f b).Edges.getD j default).Args.length → 0 ≤ ((blkA f b).Edges.getD j default).Args.getD a default ∧ ((blkA f b).Edges.getD j default).Args.getD a default < f.Values.length
 to : ∀ b j, b < f.Blocks.length → j < (blkA f b).Edges.length → ((((blkA f b).Edges.getD j default).Block.toNat : Nat) : Int) = ((blkA f b).Edges.getD j default).Block ∧ ((blkA f b).Edges.getD j default).Block.toNat < f.Blocks.length
theorem grOk_of {f : Fun} {m : Mch} (hc0 : chkF f m = 0) (hC : Chkd f) (hok : Fun.ok f) : GrOk f := by
 obtain ⟨h1, h2, h3, h4, h5⟩ := chkF_zero hc0
 have hb : ∀ k, k < f.Blocks.length → firstF (insG f m (f.Blocks.getD k default)) (f.Blocks.getD k default).Instrs.length = 0 ∧ firstF (edgH f (f.Blocks.getD k default)) (f.Blocks.getD k default).Edges.length = 0 := fun k hk => blkF_zero (firstF_zero h4 k hk)
 refine ⟨fun b i k hbl hi hk h5 => ?_, fun b hbl => blkV_of hC hok hbl, fun b j hbl hj => ?_, fun b j a hbl hj ha => ?_, fun b j hbl hj => ⟨(hC.e.nat hbl hj).1, (hC.e.nat hbl hj).2.2⟩⟩
 ·have hi2 : insF f m ((f.Blocks.getD b default).Instrs.getD i default) = 0 := firstF_zero (hb b hbl).1 i hi
  show 0 ≤ (((f.Blocks.getD b default).Instrs.getD i default).Operands.getD k default).N ∧ _
  generalize (f.Blocks.getD b default).Instrs.getD i default = x at *
  have g1 : ¬ (x.Op < 0 ∨ 255 < x.Op) := fun hn => by rw [insF_op hn] at hi2; cases hi2
  have g2 : firstF (opdG f m x) x.Operands.length = 0 := Classical.byContradiction fun hn => by rw [insF_a g1 rfl hn] at hi2; exact hn hi2
  have g3 : firstF (reuG f x) x.Operands.length = 0 := Classical.byContradiction fun hn => by rw [insF_b g1 g2 rfl hn] at hi2; exact hn hi2
  have g4 := firstF_zero g3 k hk
  unfold reuG at g4
  rw [if_pos h5] at g4
  unfold reuF at g4
  split at g4
  ·cases g4
  ·omega
 ·exact (edgF_zero (firstF_zero (hb b hbl).2 j hj)).2.1
 ·exact idx_ok (hC.argv b j a hbl hj ha)
section
variable (V : Nat) (sp : Nat → List (Int × Int))
noncomputable def rO (x : Ins) (R : Nat → Nat) : Nat → Nat → Nat
 | 0 => R
 | k + 1 => if (x.Operands.getD k default).Limit = 5 then jnR V sp (rO x R k) (x.Operands.getD k default).Value.toNat (x.Operands.getD (x.Operands.getD k default).N.toNat default).Value.toNat else rO x R k
noncomputable def rI (x : Blk) (R : Nat → Nat) : Nat → Nat → Nat
 | 0 => R
 | i + 1 => rO V sp (x.Instrs.getD i default) (rI x R i) (x.Instrs.getD i default).Operands.length
noncomputable def rA (p a : List Int) (R : Nat → Nat) : Nat → Nat → Nat
 | 0 => R
 | k + 1 => jnR V sp (rA p a R k) (p.getD k default).toNat (a.getD k default).toNat
noncomputable def rE (f : Fun) (x : Blk) (R : Nat → Nat) : Nat → Nat → Nat
 | 0 => R
 | j + 1 => rA V sp (edgP f (x.Edges.getD j default)) (x.Edges.getD j default).Args (rE f x R j) (x.Edges.getD j default).Args.length
noncomputable def rB (f : Fun) : Nat → Nat → Nat
 | 0 => fun v => v
 | b + 1 => rE V sp f (blkA f b) (rI V sp (blkA f b) (rB f b) (blkA f b).Instrs.length) (blkA f b).Edges.length
end
@[reducible] noncomputable def gSp (f : Fun) (v : Nat) : List (Int × Int) := spL f (v : Int) f.Blocks.length
theorem gSp_ord {f : Fun} {m : Mch} (h0 : chkF f m = 0) (hC : Chkd f) {v : Nat} (hv : v < f.Values.length) : OrdL (gSp f v) := (spL_ord h0 hC hv _ (Nat.le_refl _)).1
theorem spL_nn {f : Fun} (hC : Chkd f) {v : Int} : ∀ b, b ≤ f.Blocks.length → ∀ q, q ∈ spL f v b → 0 ≤ q.1
 | 0, _, q, hq => by cases hq
 | b + 1, hb, q, hq => by
  have hs := (startF_bd hC b (by omega)).1
  have ih := spL_nn hC (v := v) b (by omega)
  have e : spL f v (b + 1) = if 0 ≤ (sgF f v b).1 then mgL (spL f v b) (startF f.Blocks b + (sgF f v b).1, startF f.Blocks b + (sgF f v b).2 + 1) else spL f v b := rfl
  rw [e] at hq
  split at hq
  ·rename_i g
   cases hl : (spL f v b).getLast? with
   | none =>
    rw [List.getLast?_eq_none_iff] at hl
    rw [hl] at hq
    have e2 : ∀ p : Int × Int, mgL [] p = [p] := fun p => rfl
    rw [e2, List.mem_singleton] at hq
    rw [hq]
    show 0 ≤ startF f.Blocks b + (sgF f v b).1
    omega
   | some z =>
    by_cases e2 : z.2 = startF f.Blocks b + (sgF f v b).1
    ·rw [mgL_mrg hl e2] at hq
     rcases List.mem_append.1 hq with hq | hq
     ·exact ih q (List.dropLast_subset _ hq)
     ·rw [List.mem_singleton] at hq
      rw [hq]
      exact ih z (List.mem_of_getLast? hl)
    ·rw [mgL_app (fun q hq => by rw [hl] at hq; injection hq with hq; subst hq; exact e2)] at hq
     rcases List.mem_append.1 hq with hq | hq
     ·exact ih q hq
     ·rw [List.mem_singleton] at hq
      rw [hq]
      show 0 ≤ startF f.Blocks b + (sgF f v b).1
      omega
  ·exact ih q hq
theorem gSp_bd {f : Fun} {m : Mch} (h0 : chkF f m = 0) (hC : Chkd f) {v : Nat} (hv : v < f.Values.length) : ∀ p, p ∈ gSp f v → 0 ≤ p.1 ∧ p.2 ≤ 5000 := fun p hp => by
 have h1 := (spL_ord h0 hC hv _ (Nat.le_refl _)).2 p hp
 have h2 := (startF_bd hC f.Blocks.length (Nat.le_refl _)).2
 have h3 := hC.e.siz.blocks
 exact ⟨spL_nn hC _ (Nat.le_refl _) p hp, by omega⟩
theorem m_joinGroupsI (V : Nat) (sp : Nat → List (Int × Int)) (R : Nat → Nat) (a b : Int) (hV : V ≤ maxLen) (hs : ∀ v, v < V → (sp v).length ≤ maxLen) (ha : 0 ≤ a ∧ a < V) (hb : 0 ≤ b ∧ b < V) : ACallM B.P 11 ⟨[spsI V sp, .sl 1001 V, .i64 a, .i64 b], [(1001, hdRow V R)], .tup [], [(1001, hdRow V (jnR V sp R a.toNat b.toNat))]⟩ := by
 obtain ⟨a, rfl⟩ := Int.eq_ofNat_of_zero_le ha.1
 obtain ⟨b, rfl⟩ := Int.eq_ofNat_of_zero_le hb.1
 exact m_joinGroups V sp R a b hV hs (by omega) (by omega)
theorem gSp_len {f : Fun} {m : Mch} (h0 : chkF f m = 0) (hC : Chkd f) {v : Nat} (hv : v < f.Values.length) : (gSp f v).length ≤ maxLen := by
 have h1 : (gSp f v).length ≤ f.Blocks.length := (spI_of h0 hC hv f.Blocks.length (Nat.le_refl _)).len
 have h2 := hC.e.siz.blocks
 unfold maxLen; omega
theorem nat_snoc {v j : Nat} (hj : j < v + 1) : [AV.i64 (j : Nat)] = if j < v then [AV.i64 (j : Nat)] else ([[AV.i64 (v : Nat)]].getD (j - v) [] : List AV) := by
 by_cases e : j < v
 ·exact (if_pos e).symm
 ·obtain rfl : j = v := by omega
  rw [if_neg e, Nat.sub_self]; rfl
set_option maxRecDepth 8000 in
set_option maxHeartbeats 16000000 in
theorem c_GroupsOf (f : Fun) (m : Mch) (hok : Fun.ok f) (hC : Chkd f) (hc0 : chkF f m = 0) (h0 : flwF f m = 0) : ACallIs B.P 5 [f.av, m.av] (.tup [natsI f.Values.length (rB f.Values.length (gSp f) f f.Blocks.length), .i64 0]) := by
 have hG := grOk_of hc0 hC hok
 have hz := hC.e.siz
 have hV9 : f.Values.length ≤ 160 := hz.values
 have hVm : f.Values.length ≤ maxLen := by have := hz.values; unfold maxLen; omega
 have hbm : f.Blocks.length ≤ maxLen := by have := hz.blocks; unfold maxLen; omega
 have hsl : ∀ v, v < f.Values.length → (gSp f v).length ≤ maxLen := fun v hv => gSp_len hc0 hC hv
 refine ACallIs.enter B _ _ Tryz.func5 rfl rfl Tryz.ntmps5 Tryz.results5 rfl fun _ => ?_
 repeat (first|apply zq|apply zb|apply zk)
 apply zr;intro _
 refine AWp.freezeObj 2 rfl rfl ?_
 refine AWp.freezeObj 3 rfl rfl ?_
 repeat (first|apply zq|apply zb|apply zk)
 apply zr
 refine CallX.pure (c_SpansOf f m hok hC hc0 h0) rfl rfl rfl ?_
 intro _
 repeat (first|apply zq|apply zb|apply zk)
 apply zr;intro _
 repeat (first|apply zq|apply zb|apply zk)
 apply AWp.cond;apply zi<;>intro h1
 ·cases h1
 refine AWp.skip ?_
 repeat (first|apply zq|apply zb|apply zk)
 apply zr;intro _
 refine AWp.adopt 8 90 3 1 rfl rfl rfl ?_
 repeat (first|apply zq|apply zb|apply zk)
 apply zr;intro _
 repeat (first|apply zq|apply zb|apply zk)
 refine AWp.loop (fun v : Nat => ⟨[(2, .ptr f.cells), (6, spsV f), (8, .sl 90 v), (9, .i64 v)], [(90, hdRow v (fun w => w))]⟩) (fun v => v ≤ f.Values.length) (fun v => f.Values.length - v) 0 (Nat.zero_le _) ?_ ?_
 ·refine zi ?_ (zi ⟨_, _, rfl, rfl, fun i hi => absurd hi (Nat.not_lt_zero _)⟩ (zi zt zt))
  repeat' (first|exact rfl|exact zt|apply zi)
 intro v hv0
 repeat (first|apply zq|apply zb|apply zk)
 apply zr;intro _
 repeat (first|apply zq|apply zb|apply zk)
 apply AWp.cond;apply zi<;>intro h1
 ·have hv : v < f.Values.length := zd h1
  repeat (first|apply zq|apply zb|apply zk)
  apply zr
  repeat' (first|exact zt|apply zi|fail)
  all_goals first|exact Nat.le_refl _|exact rfl|exact fun _ _ => rfl|(intro j hj; obtain rfl : j = 0 := (by omega); exact rfl)|omega|skip
  intro _
  refine AWp.rename 37 90 rfl rfl ?_
  repeat (first|apply zq|apply zb|apply zk)
  apply zr;intro _
  refine round_end (v + 1) hv ?_ (by omega)
  refine zi ?_ (zi ⟨_, _, rfl, rfl, fun j hj => nat_snoc hj⟩ (zi zt zt))
  repeat' (first|exact rfl|exact zt|exact zw hv hVm|apply zi)
 have hv3 : ¬ (v : Int) < f.Values.length := of_decide_eq_false h1
 obtain rfl : v = f.Values.length := by omega
 apply ze
 repeat (first|apply zq|apply zb|apply zk)
 apply zr;intro _
 repeat (first|apply zq|apply zb|apply zk)
 refine AWp.loop (fun b : Nat => ⟨[(2, .ptr f.cells), (6, spsV f), (8, .sl 90 f.Values.length), (10, .i64 b)], [(90, hdRow f.Values.length (rB f.Values.length (gSp f) f b))]⟩) (fun b => b ≤ f.Blocks.length) (fun b => f.Blocks.length - b) 0 (Nat.zero_le _) ?_ ?_
 ·refine zi ?_ (zi ⟨_, _, rfl, rfl, zg⟩ (zi zt zt))
  repeat' (first|exact rfl|exact zt|apply zi)
 intro b hb0
 repeat (first|apply zq|apply zb|apply zk)
 apply zr;intro _
 repeat (first|apply zq|apply zb|apply zk)
 apply AWp.cond;apply zi<;>intro h1
 ·have hb : b < f.Blocks.length := zd h1
  have him : (blkA f b).Instrs.length ≤ maxLen := by have h9 : (blkA f b).Instrs.length ≤ 40 := hz.instrs b hb; unfold maxLen; omega
  have hem : (blkA f b).Edges.length ≤ maxLen := by have h9 : (blkA f b).Edges.length ≤ 3 := hz.edges b hb; unfold maxLen; omega
  repeat (first|apply zq|apply zb|apply zk)
  apply zr
  repeat' (first|exact zt|apply zi|fail)
  all_goals first|exact fun _ => nn hb|exact fun hh => hh|exact gT|exact gF|exact gN|exact gA|skip
  intro _
  refine AWp.freezeObj 11 rfl rfl ?_
  repeat (first|apply zq|apply zb|apply zk)
  apply zr;intro _
  repeat (first|apply zq|apply zb|apply zk)
  refine AWp.loop (fun i : Nat => ⟨[(2, .ptr f.cells), (6, spsV f), (8, .sl 90 f.Values.length), (10, .i64 b), (11, .ptr (blkA f b).cells), (12, .i64 i)], [(90, hdRow f.Values.length (rI f.Values.length (gSp f) (blkA f b) (rB f.Values.length (gSp f) f b) i))]⟩) (fun i => i ≤ (blkA f b).Instrs.length) (fun i => (blkA f b).Instrs.length - i) 0 (Nat.zero_le _) ?_ ?_
  ·refine zi ?_ (zi ⟨_, _, rfl, rfl, zg⟩ (zi zt zt))
   repeat' (first|exact rfl|exact zt|apply zi)
  intro i hi0
  repeat (first|apply zq|apply zb|apply zk)
  apply zr;intro _
  repeat (first|apply zq|apply zb|apply zk)
  apply AWp.cond;apply zi<;>intro h2
  ·have hi : i < (blkA f b).Instrs.length := zd h2
   have hom : ((blkA f b).Instrs.getD i default).Operands.length ≤ maxLen := by have h9 : ((blkA f b).Instrs.getD i default).Operands.length ≤ 6 := hz.ops b i hb hi; unfold maxLen; omega
   repeat (first|apply zq|apply zb|apply zk)
   apply zr;intro _
   repeat (first|apply zq|apply zb|apply zk)
   refine AWp.loop (fun k : Nat => ⟨[(2, .ptr f.cells), (6, spsV f), (8, .sl 90 f.Values.length), (10, .i64 b), (11, .ptr (blkA f b).cells), (12, .i64 i), (13, .i64 k)], [(90, hdRow f.Values.length (rO f.Values.length (gSp f) ((blkA f b).Instrs.getD i default) (rI f.Values.length (gSp f) (blkA f b) (rB f.Values.length (gSp f) f b) i) k))]⟩) (fun k => k ≤ ((blkA f b).Instrs.getD i default).Operands.length) (fun k => ((blkA f b).Instrs.getD i default).Operands.length - k) 0 (Nat.zero_le _) ?_ ?_
   ·refine zi ?_ (zi ⟨_, _, rfl, rfl, zg⟩ (zi zt zt))
    repeat' (first|exact rfl|exact zt|apply zi)
   intro k hk0
   repeat (first|apply zq|apply zb|apply zk)
   apply zr
   repeat' (first|exact zt|apply zi|fail)
   all_goals first|exact fun _ => nn hi|exact fun hh => hh|exact gT|exact gF|exact gN|exact gA|skip
   intro _
   repeat (first|apply zq|apply zb|apply zk)
   apply AWp.cond;apply zi<;>intro h3
   ·have hk : k < ((blkA f b).Instrs.getD i default).Operands.length := zd h3
    have hv1 := (hG.bv b hb).o i k hi hk
    repeat (first|apply zq|apply zb|apply zk)
    apply zr
    repeat' (first|exact zt|apply zi|fail)
    all_goals first|exact fun _ => nn hi|exact fun _ => nn hk|exact fun hh => hh|exact gT|exact gF|exact gN|exact gA|skip
    intro _
    refine AWp.freezeObj 14 rfl rfl ?_
    repeat (first|apply zq|apply zb|apply zk)
    apply zr;intro _
    repeat (first|apply zq|apply zb|apply zk)
    apply AWp.cond;apply zi<;>intro h4
    ·have h5 : (((blkA f b).Instrs.getD i default).Operands.getD k default).Limit = 5 := by simpa using h4
     have hn := hG.reu b i k hb hi hk h5
     have hv2 := (hG.bv b hb).o i (((blkA f b).Instrs.getD i default).Operands.getD k default).N.toNat hi (by omega)
     have hu : rO f.Values.length (gSp f) ((blkA f b).Instrs.getD i default) (rI f.Values.length (gSp f) (blkA f b) (rB f.Values.length (gSp f) f b) i) (k + 1) = _ := if_pos h5
     repeat (first|apply zq|apply zb|apply zk)
     refine AWp.quietFirst (.q 0 (.q 2 (.q 3 (.q 4 (.q 5 (.q 6 (.q 7 (.q 8 (.q 9 (.q 10 (.q 11 (.q 12 (.q 13 (.q 14 (.c 1 false (.c 15 true .fin .no) .no))))))))))))))) [0, 2, 3, 4, 5, 6, 7, 8, 9, 10, 11, 12, 13, 14] [] mixed (by kernel_rfl) ?_
     repeat' (first|exact zt|apply zi|refine CallX.lend (m_joinGroupsI f.Values.length (gSp f) (rO f.Values.length (gSp f) ((blkA f b).Instrs.getD i default) (rI f.Values.length (gSp f) (blkA f b) (rB f.Values.length (gSp f) f b) i) k) _ _ hVm hsl hv1 hv2) [(1001, 90)] rfl (zi rfl zt) rfl ?_|fail)
     all_goals first|exact hn.1|exact hn.2|exact fun _ => hn|exact fun _ => nn hi|omega|skip
     intro _
     repeat (first|apply zq|apply zb|apply zk)
     apply zr;intro _
     refine round_end (k + 1) hk ?_ (by omega)
     refine zi ?_ (zi ⟨_, _, rfl, rfl, fun j hj => congrArg (fun g : Nat → Nat => [AV.i64 (g j : Nat)]) hu⟩ (zi zt zt))
     repeat' (first|exact rfl|exact zt|exact zw hk hom|apply zi)
    have h5 : ¬ (((blkA f b).Instrs.getD i default).Operands.getD k default).Limit = 5 := by simpa using h4
    have hu : rO f.Values.length (gSp f) ((blkA f b).Instrs.getD i default) (rI f.Values.length (gSp f) (blkA f b) (rB f.Values.length (gSp f) f b) i) (k + 1) = _ := if_neg h5
    refine AWp.skip ?_
    repeat (first|apply zq|apply zb|apply zk)
    apply zr;intro _
    refine round_end (k + 1) hk ?_ (by omega)
    refine zi ?_ (zi ⟨_, _, rfl, rfl, fun j hj => congrArg (fun g : Nat → Nat => [AV.i64 (g j : Nat)]) hu⟩ (zi zt zt))
    repeat' (first|exact rfl|exact zt|exact zw hk hom|apply zi)
   have hk3 : ¬ (k : Int) < ((blkA f b).Instrs.getD i default).Operands.length := of_decide_eq_false h3
   obtain rfl : k = ((blkA f b).Instrs.getD i default).Operands.length := by omega
   apply ze
   repeat (first|apply zq|apply zb|apply zk)
   apply zr;intro _
   refine round_end (i + 1) hi ?_ (by omega)
   refine zi ?_ (zi ⟨_, _, rfl, rfl, zg⟩ (zi zt zt))
   repeat' (first|exact rfl|exact zt|exact zw hi him|apply zi)
  have hi3 : ¬ (i : Int) < (blkA f b).Instrs.length := of_decide_eq_false h2
  obtain rfl : i = (blkA f b).Instrs.length := by omega
  apply ze
  repeat (first|apply zq|apply zb|apply zk)
  apply zr;intro _
  repeat (first|apply zq|apply zb|apply zk)
  refine AWp.loop (fun j : Nat => ⟨[(2, .ptr f.cells), (6, spsV f), (8, .sl 90 f.Values.length), (10, .i64 b), (11, .ptr (blkA f b).cells), (15, .i64 j)], [(90, hdRow f.Values.length (rE f.Values.length (gSp f) f (blkA f b) (rI f.Values.length (gSp f) (blkA f b) (rB f.Values.length (gSp f) f b) (blkA f b).Instrs.length) j))]⟩) (fun j => j ≤ (blkA f b).Edges.length) (fun j => (blkA f b).Edges.length - j) 0 (Nat.zero_le _) ?_ ?_
  ·refine zi ?_ (zi ⟨_, _, rfl, rfl, zg⟩ (zi zt zt))
   repeat' (first|exact rfl|exact zt|apply zi)
  intro j hj0
  repeat (first|apply zq|apply zb|apply zk)
  apply zr;intro _
  repeat (first|apply zq|apply zb|apply zk)
  apply AWp.cond;apply zi<;>intro h2
  ·have hj : j < (blkA f b).Edges.length := zd h2
   have hel : ((blkA f b).Edges.getD j default).Args.length = (edgP f ((blkA f b).Edges.getD j default)).length := hG.args b j hb hj
   have ham : ((blkA f b).Edges.getD j default).Args.length ≤ maxLen := by have h9 : ((blkA f b).Edges.getD j default).Args.length ≤ 5 := hC.argl b j hb hj; unfold maxLen; omega
   have hto := hG.to b j hb hj
   repeat (first|apply zq|apply zb|apply zk)
   apply zr
   repeat' (first|exact zt|apply zi|fail)
   all_goals first|exact fun _ => nn hj|exact fun hh => hh|exact gT|exact gF|exact gN|exact gA|skip
   intro _
   refine AWp.freezeObj 16 rfl rfl ?_
   repeat (first|apply zq|apply zb|apply zk)
   apply zr;intro _
   repeat (first|apply zq|apply zb|apply zk)
   refine AWp.loop (fun a : Nat => ⟨[(2, .ptr f.cells), (6, spsV f), (8, .sl 90 f.Values.length), (10, .i64 b), (11, .ptr (blkA f b).cells), (15, .i64 j), (16, .ptr ((blkA f b).Edges.getD j default).cells), (17, .i64 a)], [(90, hdRow f.Values.length (rA f.Values.length (gSp f) (edgP f ((blkA f b).Edges.getD j default)) ((blkA f b).Edges.getD j default).Args (rE f.Values.length (gSp f) f (blkA f b) (rI f.Values.length (gSp f) (blkA f b) (rB f.Values.length (gSp f) f b) (blkA f b).Instrs.length) j) a))]⟩) (fun a => a ≤ ((blkA f b).Edges.getD j default).Args.length) (fun a => ((blkA f b).Edges.getD j default).Args.length - a) 0 (Nat.zero_le _) ?_ ?_
   ·refine zi ?_ (zi ⟨_, _, rfl, rfl, zg⟩ (zi zt zt))
    repeat' (first|exact rfl|exact zt|apply zi)
   intro a ha0
   repeat (first|apply zq|apply zb|apply zk)
   apply zr;intro _
   repeat (first|apply zq|apply zb|apply zk)
   apply AWp.cond;apply zi<;>intro h3
   ·have ha : a < ((blkA f b).Edges.getD j default).Args.length := zd h3
    have ha2 : a < (edgP f ((blkA f b).Edges.getD j default)).length := by omega
    have hv1 := (hG.bv _ hto.2).p a ha2
    have hv2 := hG.argv b j a hb hj ha
    repeat (first|apply zq|apply zb|apply zk)
    refine AWp.quietFirst (.q 0 (.q 2 (.q 3 (.q 4 (.q 5 (.q 6 (.q 7 (.q 8 (.q 9 (.q 10 (.q 11 (.q 12 (.q 13 (.q 14 (.q 15 (.q 16 (.c 1 false (.c 17 true .fin .no) .no))))))))))))))))) [0, 2, 3, 4, 5, 6, 7, 8, 9, 10, 11, 12, 13, 14, 15, 16] [] mixed (by kernel_rfl) ?_
    repeat' (first|exact zt|apply zi|refine CallX.lend (m_joinGroupsI f.Values.length (gSp f) (rA f.Values.length (gSp f) (edgP f ((blkA f b).Edges.getD j default)) ((blkA f b).Edges.getD j default).Args (rE f.Values.length (gSp f) f (blkA f b) (rI f.Values.length (gSp f) (blkA f b) (rB f.Values.length (gSp f) f b) (blkA f b).Instrs.length) j) a) _ _ hVm hsl hv1 hv2) [(1001, 90)] rfl (zi rfl zt) rfl ?_|fail)
    all_goals first|exact fun _ => nn ha2|exact fun _ => nn ha|(intro _; omega)|omega|skip
    intro _
    repeat (first|apply zq|apply zb|apply zk)
    apply zr;intro _
    refine round_end (a + 1) ha ?_ (by omega)
    refine zi ?_ (zi ⟨_, _, rfl, rfl, zg⟩ (zi zt zt))
    repeat' (first|exact rfl|exact zt|exact zw ha ham|apply zi)
   have ha3 : ¬ (a : Int) < ((blkA f b).Edges.getD j default).Args.length := of_decide_eq_false h3
   obtain rfl : a = ((blkA f b).Edges.getD j default).Args.length := by omega
   apply ze
   repeat (first|apply zq|apply zb|apply zk)
   apply zr;intro _
   refine round_end (j + 1) hj ?_ (by omega)
   refine zi ?_ (zi ⟨_, _, rfl, rfl, zg⟩ (zi zt zt))
   repeat' (first|exact rfl|exact zt|exact zw hj hem|apply zi)
  have hj3 : ¬ (j : Int) < (blkA f b).Edges.length := of_decide_eq_false h2
  obtain rfl : j = (blkA f b).Edges.length := by omega
  apply ze
  repeat (first|apply zq|apply zb|apply zk)
  apply zr;intro _
  refine round_end (b + 1) hb ?_ (by omega)
  refine zi ?_ (zi ⟨_, _, rfl, rfl, zg⟩ (zi zt zt))
  repeat' (first|exact rfl|exact zt|exact zw hb hbm|apply zi)
 have hb3 : ¬ (b : Int) < f.Blocks.length := of_decide_eq_false h1
 obtain rfl : b = f.Blocks.length := by omega
 apply ze
 refine AWp.freeze 90 (fun i => [.i64 (rB f.Values.length (gSp f) f f.Blocks.length i : Nat)]) rfl (fun i hi => rfl) ?_
 repeat (first|apply zq|apply zb|apply zk)
 apply zr;intro _
 refine AWp.ret ⟨Or.inl rfl, rfl, ?_⟩
 intro _
 rfl
theorem m_joinI {V : Nat} {sp : Nat → List (Int × Int)} {R h : Nat → Nat} {G : Nat → List (Int × Int)} (I : GrI V sp R h G) (hV : V ≤ 1000) (hM : ∀ w, w < V → ∀ p, p ∈ sp w → 0 ≤ p.1 ∧ p.2 ≤ 5000) (a b : Int) (ha : 0 ≤ a ∧ a < V) (hb : 0 ≤ b ∧ b < V) : ∃ h' G', GrI V sp (jnR V sp R a.toNat b.toNat) h' G' ∧ ACallM B.P 8 ⟨[.obj 1001 0, .i64 a, .i64 b], gO V 1004 h G, .tup [], gO V 74 h' G'⟩ := by
 obtain ⟨a, rfl⟩ := Int.eq_ofNat_of_zero_le ha.1
 obtain ⟨b, rfl⟩ := Int.eq_ofNat_of_zero_le hb.1
 exact m_join I hV hM a b (by omega) (by omega)
theorem nats_snoc {R : Nat → Nat} {v j : Nat} (hj : j < v + 1) : [AV.i64 (R j : Nat)] = if j < v then [AV.i64 (R j : Nat)] else ([[AV.i64 (R v : Nat)]].getD (j - v) [] : List AV) := by
 by_cases e : j < v
 ·exact (if_pos e).symm
 ·obtain rfl : j = v := by omega
  rw [if_neg e, Nat.sub_self]; rfl
set_option maxRecDepth 8000 in
set_option maxHeartbeats 32000000 in
theorem c_Groups (f : Fun) (m : Mch) (hok : Fun.ok f) {d : Nat → Int} (hT : TrOk f d) (hC : Chkd f) (hc0 : chkF f m = 0) (h0 : flwF f m = 0) : ACallIs B.P 4 [f.av, m.av] (.tup [natsI f.Values.length (rB f.Values.length (gSp f) f f.Blocks.length), .i64 0]) := by
 have hG := grOk_of hc0 hC hok
 have hz := hC.e.siz
 have hV9 : f.Values.length ≤ 160 := hz.values
 have hVm : f.Values.length ≤ maxLen := by have := hz.values; unfold maxLen; omega
 have hbm : f.Blocks.length ≤ maxLen := by have := hz.blocks; unfold maxLen; omega
 have hsl : ∀ v, v < f.Values.length → (gSp f v).length ≤ maxLen := fun v hv => gSp_len hc0 hC hv
 have hV1 : f.Values.length ≤ 1000 := by have := hz.values; omega
 have hM : ∀ w, w < f.Values.length → ∀ p, p ∈ gSp f w → 0 ≤ p.1 ∧ p.2 ≤ 5000 := fun w hw => gSp_bd hc0 hC hw
 refine ACallIs.enter B _ _ Tryz.func4 rfl rfl Tryz.ntmps4 Tryz.results4 rfl fun _ => ?_
 repeat (first|apply zq|apply zb|apply zk)
 apply zr;intro _
 refine AWp.freezeObj 2 rfl rfl ?_
 refine AWp.freezeObj 3 rfl rfl ?_
 repeat (first|apply zq|apply zb|apply zk)
 apply zr
 refine CallX.lend (m_Spans f m hok hT hC hc0 h0) [(35, 35), (70, 70)] rfl zt rfl ?_
 intro _
 repeat (first|apply zq|apply zb|apply zk)
 apply zr;intro _
 repeat (first|apply zq|apply zb|apply zk)
 apply AWp.cond;apply zi<;>intro h1
 ·cases h1
 refine AWp.skip ?_
 repeat (first|apply zq|apply zb|apply zk)
 apply zr;intro _
 refine AWp.via (newρ 91) ⟨[(2, .ptr f.cells), (8, .obj 33 0)], [(33, .cells [.sl 91 0, .sl 35 f.Values.length]), (91, hdRow 0 (fun w => w)), (35, rowsS f.Values.length 70 (gSp f)), (70, famS f.Values.length (gSp f))]⟩ ?_ ?_
 ·refine ⟨?_, ?_, newρ_inj 91 _, newρ_old (by decide) _⟩
  ·repeat' (first|exact rfl|exact zt|apply zi)
  ·refine zi (zi ⟨_, ⟨_, rfl, rfl, zt⟩, rfl⟩ (zi rfl (zi rfl zt))) (zi (zi ⟨_, _, _, rfl⟩ zt) (zi (zi ⟨_, ⟨_, rfl, rfl, zt⟩, Or.inl ⟨_, rfl, zg⟩⟩ (fun i hi => zi ⟨i, hi, rfl⟩ zt)) (zi (fun z hz => zi ⟨_, ⟨_, rfl, rfl, hz⟩, Or.inl ⟨_, rfl, zg⟩⟩ zt) zt)))
 repeat (first|apply zq|apply zb|apply zk)
 apply zr;intro _
 repeat (first|apply zq|apply zb|apply zk)
 refine AWp.loop (fun v : Nat => ⟨[(2, .ptr f.cells), (8, .obj 33 0), (36, .i64 f.Values.length), (37, .i64 v)], [(33, .cells [.sl 91 v, .sl 35 f.Values.length]), (91, hdRow v (fun w => w)), (35, rowsS f.Values.length 70 (gSp f)), (70, famS f.Values.length (gSp f))]⟩) (fun v => v ≤ f.Values.length) (fun v => f.Values.length - v) 0 (Nat.zero_le _) ?_ ?_
 ·refine zi ?_ (zi rfl (zi (zi rfl (zi rfl zt)) (zi ⟨_, _, rfl, rfl, zg⟩ (zi zt (zi ⟨_, _, rfl, rfl, zg⟩ (zi (fun i hi => zi ⟨i, hi, rfl⟩ zt) (zi ⟨_, _, rfl, fun z hz => ⟨hz, _, _, rfl, rfl, fun i hi => rfl⟩⟩ (zi (fun z hz => trivial) zt))))))))
  repeat' (first|exact rfl|exact zt|apply zi)
 intro v hv0
 repeat (first|apply zq|apply zb|apply zk)
 apply zr;intro _
 repeat (first|apply zq|apply zb|apply zk)
 apply AWp.cond;apply zi<;>intro h1
 ·have hv : v < f.Values.length := zd h1
  repeat (first|apply zq|apply zb|apply zk)
  apply zr;intro _
  repeat (first|apply zq|apply zb|apply zk)
  apply zr
  repeat' (first|exact zt|apply zi|fail)
  all_goals first|exact Nat.le_refl _|exact rfl|exact fun _ _ => rfl|(intro j hj; obtain rfl : j = 0 := (by omega); exact rfl)|omega|skip
  intro _
  refine AWp.rename 47 91 rfl rfl ?_
  repeat (first|apply zq|apply zb|apply zk)
  apply zr;intro _
  refine round_end (v + 1) hv ?_ (by omega)
  refine zi ?_ (zi rfl (zi (zi rfl (zi rfl zt)) (zi ⟨_, _, rfl, rfl, fun j hj => nat_snoc hj⟩ (zi zt (zi ⟨_, _, rfl, rfl, zg⟩ (zi (fun i hi => zi ⟨i, hi, rfl⟩ zt) (zi ⟨_, _, rfl, fun z hz => ⟨hz, _, _, rfl, rfl, fun i hi => rfl⟩⟩ (zi (fun z hz => trivial) zt))))))))
  repeat' (first|exact rfl|exact zt|exact zw hv hVm|apply zi)
 have hv3 : ¬ (v : Int) < f.Values.length := of_decide_eq_false h1
 obtain rfl : v = f.Values.length := by omega
 apply ze
 repeat (first|apply zq|apply zb|apply zk)
 apply zr;intro _
 have I : GrI f.Values.length (gSp f) (fun v => v) (fun w => w) (gSp f) := GrI.start fun v hv => gSp_ord hc0 hC hv
 repeat (first|apply zq|apply zb|apply zk)
 refine AWp.loop (fun s : Nat × (Nat → Nat) × (Nat → List (Int × Int)) => ⟨[(2, .ptr f.cells), (8, .obj 33 0), (52, .ro 3 f.Blocks.length (fun j => (f.Blocks.getD j default).cells)), (53, .i64 f.Blocks.length), (54, .i64 s.1)], [(33, .cells [.sl 91 f.Values.length, .sl 35 f.Values.length]), (91, hdRow f.Values.length s.2.1), (35, rowsS f.Values.length 70 s.2.2), (70, famS f.Values.length s.2.2)]⟩) (fun s => s.1 ≤ f.Blocks.length ∧ GrI f.Values.length (gSp f) (rB f.Values.length (gSp f) f s.1) s.2.1 s.2.2) (fun s => f.Blocks.length - s.1) (0, (fun w => w), (gSp f)) ⟨Nat.zero_le _, I⟩ ?_ ?_
 ·refine zi ?_ (zi rfl (zi (zi rfl (zi rfl zt)) (zi ⟨_, _, rfl, rfl, zg⟩ (zi zt (zi ⟨_, _, rfl, rfl, zg⟩ (zi (fun i hi => zi ⟨i, hi, rfl⟩ zt) (zi ⟨_, _, rfl, fun z hz => ⟨hz, _, _, rfl, rfl, fun i hi => rfl⟩⟩ (zi (fun z hz => trivial) zt))))))))
  repeat' (first|exact rfl|exact zt|apply zi)
 rintro ⟨b, h, G⟩ ⟨hb0, I⟩
 have hb0 : b ≤ f.Blocks.length := hb0
 have I : GrI f.Values.length (gSp f) (rB f.Values.length (gSp f) f b) h G := I
 repeat (first|apply zq|apply zb|apply zk)
 apply zr;intro _
 repeat (first|apply zq|apply zb|apply zk)
 apply AWp.cond;apply zi<;>intro h1
 ·have hb : b < f.Blocks.length := zd h1
  have him : (blkA f b).Instrs.length ≤ maxLen := by have h9 : (blkA f b).Instrs.length ≤ 40 := hz.instrs b hb; unfold maxLen; omega
  have hem : (blkA f b).Edges.length ≤ maxLen := by have h9 : (blkA f b).Edges.length ≤ 3 := hz.edges b hb; unfold maxLen; omega
  repeat (first|apply zq|apply zb|apply zk)
  apply zr
  repeat' (first|exact zt|apply zi|fail)
  all_goals first|exact fun _ => nn hb|exact fun hh => hh|exact gT|exact gF|exact gN|exact gA|skip
  intro _
  refine AWp.freezeObj 11 rfl rfl ?_
  repeat (first|apply zq|apply zb|apply zk)
  apply zr;intro _
  repeat (first|apply zq|apply zb|apply zk)
  refine AWp.loop (fun s : Nat × (Nat → Nat) × (Nat → List (Int × Int)) => ⟨[(2, .ptr f.cells), (8, .obj 33 0), (52, .ro 3 f.Blocks.length (fun j => (f.Blocks.getD j default).cells)), (53, .i64 f.Blocks.length), (54, .i64 b), (11, .ptr (blkA f b).cells), (59, .ro 3 (blkA f b).Instrs.length (fun j => ((blkA f b).Instrs.getD j default).cells)), (60, .i64 (blkA f b).Instrs.length), (61, .i64 s.1)], [(33, .cells [.sl 91 f.Values.length, .sl 35 f.Values.length]), (91, hdRow f.Values.length s.2.1), (35, rowsS f.Values.length 70 s.2.2), (70, famS f.Values.length s.2.2)]⟩) (fun s => s.1 ≤ (blkA f b).Instrs.length ∧ GrI f.Values.length (gSp f) (rI f.Values.length (gSp f) (blkA f b) (rB f.Values.length (gSp f) f b) s.1) s.2.1 s.2.2) (fun s => (blkA f b).Instrs.length - s.1) (0, h, G) ⟨Nat.zero_le _, I⟩ ?_ ?_
  ·refine zi ?_ (zi rfl (zi (zi rfl (zi rfl zt)) (zi ⟨_, _, rfl, rfl, zg⟩ (zi zt (zi ⟨_, _, rfl, rfl, zg⟩ (zi (fun i hi => zi ⟨i, hi, rfl⟩ zt) (zi ⟨_, _, rfl, fun z hz => ⟨hz, _, _, rfl, rfl, fun i hi => rfl⟩⟩ (zi (fun z hz => trivial) zt))))))))
   repeat' (first|exact rfl|exact zt|apply zi)
  rintro ⟨i, h, G⟩ ⟨hi0, I⟩
  have hi0 : i ≤ (blkA f b).Instrs.length := hi0
  have I : GrI f.Values.length (gSp f) (rI f.Values.length (gSp f) (blkA f b) (rB f.Values.length (gSp f) f b) i) h G := I
  repeat (first|apply zq|apply zb|apply zk)
  apply zr;intro _
  repeat (first|apply zq|apply zb|apply zk)
  apply AWp.cond;apply zi<;>intro h2
  ·have hi : i < (blkA f b).Instrs.length := zd h2
   have hom : ((blkA f b).Instrs.getD i default).Operands.length ≤ maxLen := by have h9 : ((blkA f b).Instrs.getD i default).Operands.length ≤ 6 := hz.ops b i hb hi; unfold maxLen; omega
   repeat (first|apply zq|apply zb|apply zk)
   apply zr
   repeat' (first|exact zt|apply zi|fail)
   all_goals first|exact fun _ => nn hi|exact fun hh => hh|exact gT|exact gF|exact gN|exact gA|skip
   intro _
   refine AWp.freezeObj 13 rfl rfl ?_
   repeat (first|apply zq|apply zb|apply zk)
   apply zr;intro _
   repeat (first|apply zq|apply zb|apply zk)
   refine AWp.loop (fun s : Nat × (Nat → Nat) × (Nat → List (Int × Int)) => ⟨[(2, .ptr f.cells), (8, .obj 33 0), (52, .ro 3 f.Blocks.length (fun j => (f.Blocks.getD j default).cells)), (53, .i64 f.Blocks.length), (54, .i64 b), (11, .ptr (blkA f b).cells), (59, .ro 3 (blkA f b).Instrs.length (fun j => ((blkA f b).Instrs.getD j default).cells)), (60, .i64 (blkA f b).Instrs.length), (61, .i64 i), (13, .ptr ((blkA f b).Instrs.getD i default).cells), (66, .ro 5 ((blkA f b).Instrs.getD i default).Operands.length (fun j => (((blkA f b).Instrs.getD i default).Operands.getD j default).cells)), (67, .i64 ((blkA f b).Instrs.getD i default).Operands.length), (68, .i64 s.1)], [(33, .cells [.sl 91 f.Values.length, .sl 35 f.Values.length]), (91, hdRow f.Values.length s.2.1), (35, rowsS f.Values.length 70 s.2.2), (70, famS f.Values.length s.2.2)]⟩) (fun s => s.1 ≤ ((blkA f b).Instrs.getD i default).Operands.length ∧ GrI f.Values.length (gSp f) (rO f.Values.length (gSp f) ((blkA f b).Instrs.getD i default) (rI f.Values.length (gSp f) (blkA f b) (rB f.Values.length (gSp f) f b) i) s.1) s.2.1 s.2.2) (fun s => ((blkA f b).Instrs.getD i default).Operands.length - s.1) (0, h, G) ⟨Nat.zero_le _, I⟩ ?_ ?_
   ·refine zi ?_ (zi rfl (zi (zi rfl (zi rfl zt)) (zi ⟨_, _, rfl, rfl, zg⟩ (zi zt (zi ⟨_, _, rfl, rfl, zg⟩ (zi (fun i hi => zi ⟨i, hi, rfl⟩ zt) (zi ⟨_, _, rfl, fun z hz => ⟨hz, _, _, rfl, rfl, fun i hi => rfl⟩⟩ (zi (fun z hz => trivial) zt))))))))
    repeat' (first|exact rfl|exact zt|apply zi)
   rintro ⟨k, h, G⟩ ⟨hk0, I⟩
   have hk0 : k ≤ ((blkA f b).Instrs.getD i default).Operands.length := hk0
   have I : GrI f.Values.length (gSp f) (rO f.Values.length (gSp f) ((blkA f b).Instrs.getD i default) (rI f.Values.length (gSp f) (blkA f b) (rB f.Values.length (gSp f) f b) i) k) h G := I
   repeat (first|apply zq|apply zb|apply zk)
   apply zr;intro _
   repeat (first|apply zq|apply zb|apply zk)
   apply AWp.cond;apply zi<;>intro h3
   ·have hk : k < ((blkA f b).Instrs.getD i default).Operands.length := zd h3
    have hv1 := (hG.bv b hb).o i k hi hk
    repeat (first|apply zq|apply zb|apply zk)
    apply zr
    repeat' (first|exact zt|apply zi|fail)
    all_goals first|exact fun _ => nn hk|exact fun hh => hh|exact gT|exact gF|exact gN|exact gA|skip
    intro _
    refine AWp.freezeObj 15 rfl rfl ?_
    repeat (first|apply zq|apply zb|apply zk)
    apply zr;intro _
    repeat (first|apply zq|apply zb|apply zk)
    apply AWp.cond;apply zi<;>intro h4
    ·have h5 : (((blkA f b).Instrs.getD i default).Operands.getD k default).Limit = 5 := by simpa using h4
     have hn := hG.reu b i k hb hi hk h5
     have hv2 := (hG.bv b hb).o i (((blkA f b).Instrs.getD i default).Operands.getD k default).N.toNat hi (by omega)
     have hu : rO f.Values.length (gSp f) ((blkA f b).Instrs.getD i default) (rI f.Values.length (gSp f) (blkA f b) (rB f.Values.length (gSp f) f b) i) (k + 1) = _ := if_pos h5
     obtain ⟨h', G', I', hj⟩ := m_joinI I hV1 hM _ _ hv1 hv2
     rw [← hu] at I'
     repeat (first|apply zq|apply zb|apply zk)
     refine AWp.quietFirst (.q 1 (.q 2 (.q 3 (.q 4 (.q 5 (.q 6 (.q 7 (.q 8 (.q 9 (.c 0 false (.c 10 true .fin .no) .no)))))))))) [1, 2, 3, 4, 5, 6, 7, 8, 9] [] mixed (by kernel_rfl) ?_
     repeat' (first|exact zt|apply zi|refine CallX.lend hj [(1001, 33), (1002, 91), (1003, 35), (1004, 70), (74, 74)] rfl (zi rfl (zi rfl (zi rfl (zi rfl zt)))) rfl ?_|fail)
     all_goals first|exact hn.1|exact hn.2|exact fun _ => hn|omega|skip
     intro _
     refine AWp.rename 74 70 rfl rfl ?_
     repeat (first|apply zq|apply zb|apply zk)
     apply zr;intro _
     refine round_end (k + 1, h', G') ⟨hk, I'⟩ ?_ (by show ((blkA f b).Instrs.getD i default).Operands.length - (k + 1) < ((blkA f b).Instrs.getD i default).Operands.length - k; omega)
     refine zi ?_ (zi rfl (zi (zi rfl (zi rfl zt)) (zi ⟨_, _, rfl, rfl, zg⟩ (zi zt (zi ⟨_, _, rfl, rfl, zg⟩ (zi (fun i hi => zi ⟨i, hi, rfl⟩ zt) (zi ⟨_, _, rfl, fun z hz => ⟨hz, _, _, rfl, rfl, fun i hi => rfl⟩⟩ (zi (fun z hz => trivial) zt))))))))
     repeat' (first|exact rfl|exact zt|exact zw hk hom|apply zi)
    have h5 : ¬ (((blkA f b).Instrs.getD i default).Operands.getD k default).Limit = 5 := by simpa using h4
    have hu : rO f.Values.length (gSp f) ((blkA f b).Instrs.getD i default) (rI f.Values.length (gSp f) (blkA f b) (rB f.Values.length (gSp f) f b) i) (k + 1) = _ := if_neg h5
    rw [← hu] at I
    refine AWp.skip ?_
    repeat (first|apply zq|apply zb|apply zk)
    apply zr;intro _
    refine round_end (k + 1, h, G) ⟨hk, I⟩ ?_ (by show ((blkA f b).Instrs.getD i default).Operands.length - (k + 1) < ((blkA f b).Instrs.getD i default).Operands.length - k; omega)
    refine zi ?_ (zi rfl (zi (zi rfl (zi rfl zt)) (zi ⟨_, _, rfl, rfl, zg⟩ (zi zt (zi ⟨_, _, rfl, rfl, zg⟩ (zi (fun i hi => zi ⟨i, hi, rfl⟩ zt) (zi ⟨_, _, rfl, fun z hz => ⟨hz, _, _, rfl, rfl, fun i hi => rfl⟩⟩ (zi (fun z hz => trivial) zt))))))))
    repeat' (first|exact rfl|exact zt|exact zw hk hom|apply zi)
   have hk3 : ¬ (k : Int) < ((blkA f b).Instrs.getD i default).Operands.length := of_decide_eq_false h3
   obtain rfl : k = ((blkA f b).Instrs.getD i default).Operands.length := by omega
   apply ze
   repeat (first|apply zq|apply zb|apply zk)
   apply zr;intro _
   refine round_end (i + 1, h, G) ⟨hi, I⟩ ?_ (by show (blkA f b).Instrs.length - (i + 1) < (blkA f b).Instrs.length - i; omega)
   refine zi ?_ (zi rfl (zi (zi rfl (zi rfl zt)) (zi ⟨_, _, rfl, rfl, zg⟩ (zi zt (zi ⟨_, _, rfl, rfl, zg⟩ (zi (fun i hi => zi ⟨i, hi, rfl⟩ zt) (zi ⟨_, _, rfl, fun z hz => ⟨hz, _, _, rfl, rfl, fun i hi => rfl⟩⟩ (zi (fun z hz => trivial) zt))))))))
   repeat' (first|exact rfl|exact zt|exact zw hi him|apply zi)
  have hi3 : ¬ (i : Int) < (blkA f b).Instrs.length := of_decide_eq_false h2
  obtain rfl : i = (blkA f b).Instrs.length := by omega
  apply ze
  repeat (first|apply zq|apply zb|apply zk)
  apply zr;intro _
  repeat (first|apply zq|apply zb|apply zk)
  refine AWp.loop (fun s : Nat × (Nat → Nat) × (Nat → List (Int × Int)) => ⟨[(2, .ptr f.cells), (8, .obj 33 0), (52, .ro 3 f.Blocks.length (fun j => (f.Blocks.getD j default).cells)), (53, .i64 f.Blocks.length), (54, .i64 b), (89, .ro 2 (blkA f b).Edges.length (fun j => ((blkA f b).Edges.getD j default).cells)), (90, .i64 (blkA f b).Edges.length), (91, .i64 s.1)], [(33, .cells [.sl 91 f.Values.length, .sl 35 f.Values.length]), (91, hdRow f.Values.length s.2.1), (35, rowsS f.Values.length 70 s.2.2), (70, famS f.Values.length s.2.2)]⟩) (fun s => s.1 ≤ (blkA f b).Edges.length ∧ GrI f.Values.length (gSp f) (rE f.Values.length (gSp f) f (blkA f b) (rI f.Values.length (gSp f) (blkA f b) (rB f.Values.length (gSp f) f b) (blkA f b).Instrs.length) s.1) s.2.1 s.2.2) (fun s => (blkA f b).Edges.length - s.1) (0, h, G) ⟨Nat.zero_le _, I⟩ ?_ ?_
  ·refine zi ?_ (zi rfl (zi (zi rfl (zi rfl zt)) (zi ⟨_, _, rfl, rfl, zg⟩ (zi zt (zi ⟨_, _, rfl, rfl, zg⟩ (zi (fun i hi => zi ⟨i, hi, rfl⟩ zt) (zi ⟨_, _, rfl, fun z hz => ⟨hz, _, _, rfl, rfl, fun i hi => rfl⟩⟩ (zi (fun z hz => trivial) zt))))))))
   repeat' (first|exact rfl|exact zt|apply zi)
  rintro ⟨j, h, G⟩ ⟨hj0, I⟩
  have hj0 : j ≤ (blkA f b).Edges.length := hj0
  have I : GrI f.Values.length (gSp f) (rE f.Values.length (gSp f) f (blkA f b) (rI f.Values.length (gSp f) (blkA f b) (rB f.Values.length (gSp f) f b) (blkA f b).Instrs.length) j) h G := I
  repeat (first|apply zq|apply zb|apply zk)
  apply zr;intro _
  repeat (first|apply zq|apply zb|apply zk)
  apply AWp.cond;apply zi<;>intro h2
  ·have hj : j < (blkA f b).Edges.length := zd h2
   have hel : ((blkA f b).Edges.getD j default).Args.length = (edgP f ((blkA f b).Edges.getD j default)).length := hG.args b j hb hj
   have ham : (edgP f ((blkA f b).Edges.getD j default)).length ≤ maxLen := by have h9 : ((blkA f b).Edges.getD j default).Args.length ≤ 5 := hC.argl b j hb hj; unfold maxLen; omega
   have hto := hG.to b j hb hj
   have hto2 : 0 ≤ ((blkA f b).Edges.getD j default).Block ∧ ((blkA f b).Edges.getD j default).Block < (f.Blocks.length : Int) := by have h8 := hto.1; have h9 := hto.2; omega
   repeat (first|apply zq|apply zb|apply zk)
   apply zr
   repeat' (first|exact zt|apply zi|fail)
   all_goals first|exact fun _ => nn hj|exact fun hh => hh|exact gT|exact gF|exact gN|exact gA|skip
   intro _
   refine AWp.freezeObj 17 rfl rfl ?_
   repeat (first|apply zq|apply zb|apply zk)
   apply zr
   repeat' (first|exact zt|apply zi|fail)
   all_goals first|exact fun _ => hto2|exact hto2|exact hto2.1|exact hto2.2|skip
   intro _
   repeat (first|apply zq|apply zb|apply zk)
   refine AWp.loop (fun s : Nat × (Nat → Nat) × (Nat → List (Int × Int)) => ⟨[(2, .ptr f.cells), (8, .obj 33 0), (52, .ro 3 f.Blocks.length (fun j => (f.Blocks.getD j default).cells)), (53, .i64 f.Blocks.length), (54, .i64 b), (89, .ro 2 (blkA f b).Edges.length (fun j => ((blkA f b).Edges.getD j default).cells)), (90, .i64 (blkA f b).Edges.length), (91, .i64 j), (17, .ptr ((blkA f b).Edges.getD j default).cells), (101, ints (edgP f ((blkA f b).Edges.getD j default))), (102, .i64 (edgP f ((blkA f b).Edges.getD j default)).length), (103, .i64 s.1)], [(33, .cells [.sl 91 f.Values.length, .sl 35 f.Values.length]), (91, hdRow f.Values.length s.2.1), (35, rowsS f.Values.length 70 s.2.2), (70, famS f.Values.length s.2.2)]⟩) (fun s => s.1 ≤ (edgP f ((blkA f b).Edges.getD j default)).length ∧ GrI f.Values.length (gSp f) (rA f.Values.length (gSp f) (edgP f ((blkA f b).Edges.getD j default)) ((blkA f b).Edges.getD j default).Args (rE f.Values.length (gSp f) f (blkA f b) (rI f.Values.length (gSp f) (blkA f b) (rB f.Values.length (gSp f) f b) (blkA f b).Instrs.length) j) s.1) s.2.1 s.2.2) (fun s => (edgP f ((blkA f b).Edges.getD j default)).length - s.1) (0, h, G) ⟨Nat.zero_le _, I⟩ ?_ ?_
   ·refine zi ?_ (zi rfl (zi (zi rfl (zi rfl zt)) (zi ⟨_, _, rfl, rfl, zg⟩ (zi zt (zi ⟨_, _, rfl, rfl, zg⟩ (zi (fun i hi => zi ⟨i, hi, rfl⟩ zt) (zi ⟨_, _, rfl, fun z hz => ⟨hz, _, _, rfl, rfl, fun i hi => rfl⟩⟩ (zi (fun z hz => trivial) zt))))))))
    repeat' (first|exact rfl|exact zt|apply zi)
   rintro ⟨a, h, G⟩ ⟨ha0, I⟩
   have ha0 : a ≤ (edgP f ((blkA f b).Edges.getD j default)).length := ha0
   have I : GrI f.Values.length (gSp f) (rA f.Values.length (gSp f) (edgP f ((blkA f b).Edges.getD j default)) ((blkA f b).Edges.getD j default).Args (rE f.Values.length (gSp f) f (blkA f b) (rI f.Values.length (gSp f) (blkA f b) (rB f.Values.length (gSp f) f b) (blkA f b).Instrs.length) j) a) h G := I
   repeat (first|apply zq|apply zb|apply zk)
   apply zr;intro _
   repeat (first|apply zq|apply zb|apply zk)
   apply AWp.cond;apply zi<;>intro h3
   ·have ha : a < (edgP f ((blkA f b).Edges.getD j default)).length := zd h3
    have ha2 : a < ((blkA f b).Edges.getD j default).Args.length := by omega
    have hv1 := (hG.bv _ hto.2).p a ha
    have hv2 := hG.argv b j a hb hj ha2
    obtain ⟨h', G', I', hjn⟩ := m_joinI I hV1 hM _ _ hv1 hv2
    repeat (first|apply zq|apply zb|apply zk)
    apply zr
    repeat' (first|exact zt|apply zi|fail)
    all_goals first|exact fun _ => nn ha|exact fun hh => hh|exact gT|exact gF|exact gN|exact gA|skip
    intro _
    repeat (first|apply zq|apply zb|apply zk)
    apply zr
    repeat' (first|exact zt|apply zi|refine CallX.lend hjn [(1001, 33), (1002, 91), (1003, 35), (1004, 70), (74, 74)] rfl (zi rfl (zi rfl (zi rfl (zi rfl zt)))) rfl ?_|fail)
    all_goals first|exact fun _ => nn ha2|omega|skip
    intro _
    refine AWp.rename 74 70 rfl rfl ?_
    repeat (first|apply zq|apply zb|apply zk)
    apply zr;intro _
    refine round_end (a + 1, h', G') ⟨ha, I'⟩ ?_ (by show (edgP f ((blkA f b).Edges.getD j default)).length - (a + 1) < (edgP f ((blkA f b).Edges.getD j default)).length - a; omega)
    refine zi ?_ (zi rfl (zi (zi rfl (zi rfl zt)) (zi ⟨_, _, rfl, rfl, zg⟩ (zi zt (zi ⟨_, _, rfl, rfl, zg⟩ (zi (fun i hi => zi ⟨i, hi, rfl⟩ zt) (zi ⟨_, _, rfl, fun z hz => ⟨hz, _, _, rfl, rfl, fun i hi => rfl⟩⟩ (zi (fun z hz => trivial) zt))))))))
    repeat' (first|exact rfl|exact zt|exact zw ha ham|apply zi)
   have ha3 : ¬ (a : Int) < (edgP f ((blkA f b).Edges.getD j default)).length := of_decide_eq_false h3
   obtain rfl : a = (edgP f ((blkA f b).Edges.getD j default)).length := by omega
   rw [← hel] at I
   apply ze
   repeat (first|apply zq|apply zb|apply zk)
   apply zr;intro _
   refine round_end (j + 1, h, G) ⟨hj, I⟩ ?_ (by show (blkA f b).Edges.length - (j + 1) < (blkA f b).Edges.length - j; omega)
   refine zi ?_ (zi rfl (zi (zi rfl (zi rfl zt)) (zi ⟨_, _, rfl, rfl, zg⟩ (zi zt (zi ⟨_, _, rfl, rfl, zg⟩ (zi (fun i hi => zi ⟨i, hi, rfl⟩ zt) (zi ⟨_, _, rfl, fun z hz => ⟨hz, _, _, rfl, rfl, fun i hi => rfl⟩⟩ (zi (fun z hz => trivial) zt))))))))
   repeat' (first|exact rfl|exact zt|exact zw hj hem|apply zi)
  have hj3 : ¬ (j : Int) < (blkA f b).Edges.length := of_decide_eq_false h2
  obtain rfl : j = (blkA f b).Edges.length := by omega
  apply ze
  repeat (first|apply zq|apply zb|apply zk)
  apply zr;intro _
  refine round_end (b + 1, h, G) ⟨hb, I⟩ ?_ (by show f.Blocks.length - (b + 1) < f.Blocks.length - b; omega)
  refine zi ?_ (zi rfl (zi (zi rfl (zi rfl zt)) (zi ⟨_, _, rfl, rfl, zg⟩ (zi zt (zi ⟨_, _, rfl, rfl, zg⟩ (zi (fun i hi => zi ⟨i, hi, rfl⟩ zt) (zi ⟨_, _, rfl, fun z hz => ⟨hz, _, _, rfl, rfl, fun i hi => rfl⟩⟩ (zi (fun z hz => trivial) zt))))))))
  repeat' (first|exact rfl|exact zt|exact zw hb hbm|apply zi)
 have hb3 : ¬ (b : Int) < f.Blocks.length := of_decide_eq_false h1
 obtain rfl : b = f.Blocks.length := by omega
 apply ze
 obtain ⟨R, hR⟩ : ∃ R, R = rB f.Values.length (gSp f) f f.Blocks.length := ⟨_, rfl⟩
 rw [← hR] at I ⊢
 repeat (first|apply zq|apply zb|apply zk)
 apply zr;intro _
 refine AWp.adopt 20 92 3 1 rfl rfl rfl ?_
 repeat (first|apply zq|apply zb|apply zk)
 apply zr;intro _
 repeat (first|apply zq|apply zb|apply zk)
 refine AWp.loop (fun v : Nat => ⟨[(2, .ptr f.cells), (8, .obj 33 0), (20, .sl 92 v), (121, .i64 f.Values.length), (122, .i64 v)], [(33, .cells [.sl 91 f.Values.length, .sl 35 f.Values.length]), (91, hdRow f.Values.length h), (35, rowsS f.Values.length 70 G), (70, famS f.Values.length G), (92, hdRow v R)]⟩) (fun v => v ≤ f.Values.length) (fun v => f.Values.length - v) 0 (Nat.zero_le _) ?_ ?_
 ·refine zi ?_ (zi rfl (zi (zi rfl (zi rfl zt)) (zi ⟨_, _, rfl, rfl, zg⟩ (zi zt (zi ⟨_, _, rfl, rfl, zg⟩ (zi (fun i hi => zi ⟨i, hi, rfl⟩ zt) (zi ⟨_, _, rfl, fun z hz => ⟨hz, _, _, rfl, rfl, fun i hi => rfl⟩⟩ (zi (fun z hz => trivial) (zi ⟨_, _, rfl, rfl, fun i hi => absurd hi (Nat.not_lt_zero _)⟩ (zi zt zt))))))))))
  repeat' (first|exact rfl|exact zt|apply zi)
 intro v hv0
 repeat (first|apply zq|apply zb|apply zk)
 apply zr;intro _
 repeat (first|apply zq|apply zb|apply zk)
 apply AWp.cond;apply zi<;>intro h1
 ·have hv : v < f.Values.length := zd h1
  repeat (first|apply zq|apply zb|apply zk)
  apply zr;intro _
  repeat (first|apply zq|apply zb|apply zk)
  apply zr
  repeat' (first|exact zt|apply zi|refine CallX.lend (m_find I v hv) [(1001, 33), (1002, 91), (1003, 35), (1004, 70)] rfl (zi rfl (zi rfl (zi rfl (zi rfl zt)))) rfl ?_|fail)
  all_goals first|exact Nat.le_refl _|exact rfl|exact fun _ _ => rfl|(intro j hj; obtain rfl : j = 0 := (by omega); exact rfl)|omega|skip
  intro _
  refine AWp.rename 130 92 rfl rfl ?_
  repeat (first|apply zq|apply zb|apply zk)
  apply zr;intro _
  refine round_end (v + 1) hv ?_ (by omega)
  refine zi ?_ (zi rfl (zi (zi rfl (zi rfl zt)) (zi ⟨_, _, rfl, rfl, zg⟩ (zi zt (zi ⟨_, _, rfl, rfl, zg⟩ (zi (fun i hi => zi ⟨i, hi, rfl⟩ zt) (zi ⟨_, _, rfl, fun z hz => ⟨hz, _, _, rfl, rfl, fun i hi => rfl⟩⟩ (zi (fun z hz => trivial) (zi ⟨_, _, rfl, rfl, fun j hj => nats_snoc hj⟩ (zi zt zt))))))))))
  repeat' (first|exact rfl|exact zt|exact zw hv hVm|apply zi)
 have hv3 : ¬ (v : Int) < f.Values.length := of_decide_eq_false h1
 obtain rfl : v = f.Values.length := by omega
 apply ze
 refine AWp.freeze 92 (fun i => [.i64 (R i : Nat)]) rfl (fun i hi => rfl) ?_
 repeat (first|apply zq|apply zb|apply zk)
 apply zr;intro _
 refine AWp.ret ⟨Or.inl rfl, rfl, ?_⟩
 intro _
 rfl
end Go.Proofs.YtjjgjflbhpoloaaGreat

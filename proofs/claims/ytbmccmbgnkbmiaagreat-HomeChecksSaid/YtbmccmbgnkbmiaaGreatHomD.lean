/- Contracts of home's small functions, of seams and cover. Condition: a checked function, where said. -/
import Derived.Test.YtbmccmbgnkbmiaaGreatHomC
set_option linter.unusedVariables false
set_option linter.unusedSimpArgs false
namespace Go.Proofs.YtbmccmbgnkbmiaaGreat
open Go Go.Abs Go.RowKit
set_option maxHeartbeats 600000 in
theorem c_meet (a b c d:Int):ACallIs B.P 20 [.agg [.i64 a,.i64 b],.agg [.i64 c,.i64 d]] (.bool (meB a b c d)):=by
 refine ACallIs.enter B _ _ Tryz.func20 rfl rfl Tryz.ntmps20 Tryz.results20 rfl fun _=>?_
 repeat (first|apply zq|apply zb|apply zk)
 apply zr;intro _
 refine AWp.freezeObj 2 rfl rfl ?_
 refine AWp.freezeObj 3 rfl rfl ?_
 repeat (first|apply zq|apply zb|apply zk)
 apply zr
 repeat' (first|exact zt|apply zi|fail)
 all_goals first|exact fun hh=>hh|exact gT|exact gF|skip
 intro _
 refine AWp.ret ⟨Or.inl rfl,rfl,?_⟩
 intro _
 refine tupB (show (bif decide (a<d) then decide (c<b) else false)=_ from ?_)
 unfold meB
 cases decide (a<d)<;>rfl
theorem plc_eq (p q:Plc):((p.Kind==q.Kind)&&((p.Class==q.Class)&&((p.N==q.N)&&true)))=(p==q):=by
 obtain ⟨a,b,c⟩:=p
 obtain ⟨a',b',c'⟩:=q
 rw [Bool.eq_iff_iff]
 simp only [Bool.and_eq_true,beq_iff_eq,Plc.mk.injEq,and_true]
theorem bif_and3 (a b:Bool):(bif a then b else false)=(a&&b):=by cases a<;>rfl
theorem bif_or3 (a b:Bool):(bif a then true else b)=(a||b):=by cases a<;>rfl
theorem c_twH (g h:Hom):ACallIs B.P 19 [g.av,.ptr h.cells] (.bool (twH g h)):=by
 refine ACallIs.enter B _ _ Tryz.func19 rfl rfl Tryz.ntmps19 Tryz.results19 rfl fun _=>?_
 repeat (first|apply zq|apply zb|apply zk)
 apply zr;intro _
 refine AWp.freezeObj 2 rfl rfl ?_
 repeat (first|apply zq|apply zb|apply zk)
 apply zr
 repeat' (first|exact zt|apply zi|refine CallK.intro (fun _=>c_meet g.From g.To h.From h.To) ?_|fail)
 all_goals first|exact fun hh=>hh|exact gT|exact gF|skip
 intro _
 refine AWp.ret ⟨Or.inl rfl,rfl,?_⟩
 intro _
 refine tupB (show (bif ((g.P.Kind==h.P.Kind)&&((g.P.Class==h.P.Class)&&((g.P.N==h.P.N)&&true))) then meB g.From g.To h.From h.To else false)=_ from ?_)
 rw [plc_eq,bif_and3]
theorem c_IdxH (L:List Hom) (h:Hom) (hL:L.length≤maxLen):ACallIs B.P 42 [homV L,.fn 19 [.ptr h.cells]] (.i64 (idxF (fun j=>twH (L.getD j default) h) L.length)):=by
 refine ACallIs.enter B _ _ Tryz.func42 rfl rfl Tryz.ntmps42 Tryz.results42 rfl fun _=>?_
 repeat (first|apply zq|apply zb|apply zk)
 apply zr;intro _
 repeat (first|apply zq|apply zb|apply zk)
 apply zr;intro _
 repeat (first|apply zq|apply zb|apply zk)
 refine AWp.loop (fun i:Nat=>⟨[(0,homV L),(1,.fn 19 [.ptr h.cells]),(7,.i64 L.length),(8,.i64 i)],[]⟩) (fun i=>i≤L.length∧∀ j,j<i→twH (L.getD j default) h=false) (fun i=>L.length - i) 0 ⟨Nat.zero_le _,fun j hj=>absurd hj (Nat.not_lt_zero _)⟩ ?_ ?_
 ·repeat' (first|exact rfl|exact zt|apply zi)
 rintro i ⟨hi,hn⟩
 repeat (first|apply zq|apply zb|apply zk)
 apply zr;intro _
 repeat (first|apply zq|apply zb|apply zk)
 apply AWp.cond;apply zi<;>intro h1
 ·have hi':i<L.length:=zd h1
  repeat (first|apply zq|apply zb|apply zk)
  apply zr;intro _
  repeat (first|apply zq|apply zb|apply zk)
  apply zr
  refine zi (fun _=>nn (hi')) ?_
  refine CallX.pure (c_twH (L.getD i default) h) rfl rfl rfl ?_
  intro _
  repeat (first|apply zq|apply zb|apply zk)
  apply AWp.cond;apply zi<;>intro h2
  ·repeat (first|apply zq|apply zb|apply zk)
   apply zr;intro _
   refine AWp.ret ⟨Or.inl rfl,rfl,?_⟩
   intro _
   exact tupI (idxF_hit (p:=fun j=>twH (L.getD j default) h) hi' hn h2).symm
  refine AWp.skip ?_
  repeat (first|apply zq|apply zb|apply zk)
  apply zr;intro _
  refine Exists.intro (i+1) (zi ⟨hi',fun j hj=>?_⟩ (zi ?_ (by omega)))
  ·by_cases e:j=i
   ·subst e; exact h2
   ·exact hn j (by omega)
  ·repeat' (first|exact rfl|exact zt|exact zw hi' hL|apply zi)
 have hi3:¬ (i:Int)<L.length:=of_decide_eq_false h1
 obtain rfl:i=L.length:=by omega
 apply ze
 repeat (first|apply zq|apply zb|apply zk)
 apply zr;intro _
 refine AWp.ret ⟨Or.inl rfl,rfl,?_⟩
 intro _
 exact tupI (idxF_none (p:=fun j=>twH (L.getD j default) h) hn).symm
theorem c_ConH (L:List Hom) (h:Hom) (hL:L.length≤maxLen):ACallIs B.P 18 [homV L,.fn 19 [.ptr h.cells]] (.bool (anyB (fun j=>twH (L.getD j default) h) L.length)):=by
 refine ACallIs.enter B _ _ Tryz.func18 rfl rfl Tryz.ntmps18 Tryz.results18 rfl fun _=>?_
 repeat (first|apply zq|apply zb|apply zk)
 apply zr;intro _
 repeat (first|apply zq|apply zb|apply zk)
 apply zr
 refine CallX.pure (c_IdxH L h hL) rfl rfl rfl ?_
 intro _
 refine AWp.ret ⟨Or.inl rfl,rfl,?_⟩
 intro _
 exact tupB (idxF_any _ _)
set_option maxHeartbeats 2000000 in
theorem c_plH (f:Fun) (m:Mch) (hV:VOk f) (fr:Int) (v:Nat) (hv:v<f.Values.length) (p:Plc):ACallIs B.P 17 [f.av,m.av,.i64 v,p.av,.i64 fr] (.bool (plB f m fr v p)):=by
 have hc:=cls_ok hV (v:=(v:Int)) (by unfold valB; rw [decide_eq_true (by omega),decide_eq_true (by omega)]; rfl)
 have hi:0≤(v:Int)∧(v:Int)<f.Values.length:=by omega
 have hg:((bif (bif (p.Kind==1) then (p.Class==f.Values.getD (v:Int).toNat default) else false) then decide (p.N≥0) else false)==true)=true→0≤p.Class∧p.Class<((2:Nat):Int):=fun hh=>by
  simp only [bif_and3,beq_iff_eq,Bool.and_eq_true,decide_eq_true_eq] at hh
  have e:p.Class=cls f v:=hh.1.2
  rw [e]; exact hc
 refine ACallIs.enter B _ _ Tryz.func17 rfl rfl Tryz.ntmps17 Tryz.results17 rfl fun _=>?_
 repeat (first|apply zq|apply zb|apply zk)
 apply zr;intro _
 refine AWp.freezeObj 5 rfl rfl ?_
 refine AWp.freezeObj 6 rfl rfl ?_
 refine AWp.freezeObj 8 rfl rfl ?_
 repeat (first|apply zq|apply zb|apply zk)
 apply zr;intro _
 repeat (first|apply zq|apply zb|apply zk)
 apply AWp.cond;apply zi<;>intro h1
 ·have h1:p.Kind=2:=by simpa using h1
  repeat (first|apply zq|apply zb|apply zk)
  apply zr
  repeat' (first|exact zt|apply zi|fail)
  all_goals first|exact fun hh=>hh|exact gT|exact gF|exact gA|skip
  intro _
  refine AWp.ret ⟨Or.inl rfl,rfl,?_⟩
  intro _
  refine tupB (show (bif (bif (p.Class==0) then decide (p.N≥0) else false) then decide (p.N<fr) else false)=_ from ?_)
  unfold plB placeF
  rw [if_neg (by omega),if_pos h1,h1,Bool.eq_iff_iff]
  simp only [bif_and3,Bool.and_eq_true,decide_eq_true_eq,beq_iff_eq]
  constructor
  ·rintro ⟨⟨a,b⟩,c⟩; exact ⟨⟨a,b,c⟩,rfl⟩
  ·rintro ⟨⟨a,b,c⟩,_⟩; exact ⟨⟨a,b⟩,c⟩
 have h1:p.Kind≠2:=by simpa using h1
 refine AWp.skip ?_
 repeat (first|apply zq|apply zb|apply zk)
 refine AWp.draw mixed (by kernel_rfl) ?_
 repeat' (first|exact zt|apply zi|fail)
 all_goals first|exact fun _=>hi|exact hg|exact fun hh=>hh|exact gT|exact gF|exact gA|(intro hh; simpa using hh)|skip
 intro _
 refine AWp.ret ⟨Or.inl rfl,rfl,?_⟩
 intro _
 refine tupB (show (bif (bif (bif (p.Kind==1) then (p.Class==cls f v) else false) then decide (p.N≥0) else false) then decide (p.N<regF m p.Class) else false)=_ from ?_)
 unfold plB placeF
 rw [Bool.eq_iff_iff]
 by_cases hk:p.Kind=1
 ·rw [if_pos hk]
  simp only [bif_and3,Bool.and_eq_true,decide_eq_true_eq,beq_iff_eq,hk,Bool.not_eq_true',Bool.and_eq_false_iff,beq_self_eq_true,true_and,bne_eq_false_iff_eq,Bool.true_eq_false,false_or]
  constructor
  ·rintro ⟨⟨a,b⟩,c⟩; exact ⟨⟨by omega,by omega,by omega,c⟩,a⟩
  ·rintro ⟨⟨_,_,b,c⟩,a⟩; exact ⟨⟨a,by omega⟩,c⟩
 ·rw [if_neg hk,if_neg h1]
  simp [bif_and3,hk]
@[reducible] def rowQ (n:Nat) (g:Nat→Bool):HO:=.row 4 1 n (fun i=>[.bool (g i)])
@[reducible] def seamV (f:Fun):AV:=.ro 1 ((startF f.Blocks f.Blocks.length).toNat+1) (fun p=>[.bool (smB f (p:Nat))])
def smI (f:Fun) (b i:Nat) (p:Nat):Bool:=anyB (smK f (p:Nat)) b||(decide ((p:Int)=(startF f.Blocks b))||(inB ((p:Int) - (startF f.Blocks b)) 1 (2 * (i:Int))&&decide (((p:Int) - (startF f.Blocks b)) % 2=1)))
theorem smI_zero {f:Fun} {b p:Nat}:smI f b 0 p=if (p:Int)=(startF f.Blocks b) then true else anyB (smK f (p:Nat)) b:=by
 unfold smI inB
 by_cases h:(p:Int)=(startF f.Blocks b)
 ·rw [if_pos h,decide_eq_true h,Bool.true_or,Bool.or_true]
 ·rw [if_neg h,decide_eq_false h,Bool.false_or]
  have e:(decide (1≤(p:Int) - (startF f.Blocks b))&&decide ((p:Int) - (startF f.Blocks b)≤2 * ((0:Nat):Int)))=false:=by
   rw [Bool.and_eq_false_iff]
   simp only [decide_eq_false_iff_not]
   omega
  rw [e,Bool.false_and,Bool.or_false]
theorem smI_succ {f:Fun} {b i p:Nat}:smI f b (i+1) p=if (p:Int)=(startF f.Blocks b)+1+2 * (i:Int) then true else smI f b i p:=by
 unfold smI inB
 by_cases h:(p:Int)=(startF f.Blocks b)+1+2 * (i:Int)
 ·rw [if_pos h,h,Bool.eq_iff_iff]
  simp only [Bool.or_eq_true,Bool.and_eq_true,decide_eq_true_eq,iff_true]
  refine .inr (.inr ?_)
  omega
 ·rw [if_neg h,Bool.eq_iff_iff]
  simp only [Bool.or_eq_true,Bool.and_eq_true,decide_eq_true_eq]
  constructor
  ·rintro (h1|h1|h1)
   ·exact .inl h1
   ·exact .inr (.inl h1)
   ·exact .inr (.inr (by omega))
  ·rintro (h1|h1|h1)
   ·exact .inl h1
   ·exact .inr (.inl h1)
   ·exact .inr (.inr (by omega))
theorem smI_end {f:Fun} {b p:Nat}:smI f b (blkA f b).Instrs.length p=anyB (smK f (p:Nat)) (b+1):=by
 rw [anyB_succ]; rfl
set_option maxRecDepth 8000 in
set_option maxHeartbeats 8000000 in
theorem c_seams (f:Fun) (hC:Chkd f) (hok:Fun.ok f):ACallIs B.P 15 [f.av] (seamV f):=by
 have hbl:=hC.e.siz.blocks
 have hbm:f.Blocks.length≤maxLen:=by unfold maxLen; omega
 have hbd:=startF_bd hC f.Blocks.length (Nat.le_refl _)
 have hlen:=startsF_len f.Blocks
 have hget:∀ b,b≤f.Blocks.length→(startsF f.Blocks).getD b default=startF f.Blocks b:=fun b hb=>startsF_get hb
 have hw0:IntKind.i64.wrap (((startsF f.Blocks).length:Int) - 1)=(f.Blocks.length:Nat):=by rw [hlen,wrap_in (by omega) (by omega)]; omega
 have hw1:IntKind.i64.wrap ((startsF f.Blocks).getD (IntKind.i64.wrap (((startsF f.Blocks).length:Int) - 1)).toNat default+1)=(((startF f.Blocks f.Blocks.length).toNat+1):Nat):=by
  rw [hw0]
  show IntKind.i64.wrap ((startsF f.Blocks).getD f.Blocks.length default+1)=_
  rw [hget _ (Nat.le_refl _),wrap_in (by omega) (by omega)]
  omega
 have hw2:(fun _:Unit=>(0≤IntKind.i64.wrap (((startsF f.Blocks).length:Int) - 1)∧IntKind.i64.wrap (((startsF f.Blocks).length:Int) - 1)<((startsF f.Blocks).length:Int))) ():=by
  show _∧_
  rw [hw0,hlen]; omega
 refine ACallIs.enter B _ _ Tryz.func15 rfl rfl Tryz.ntmps15 Tryz.results15 rfl fun _=>?_
 repeat (first|apply zq|apply zb|apply zk)
 apply zr;intro _
 refine AWp.freezeObj 1 rfl rfl ?_
 repeat (first|apply zq|apply zb|apply zk)
 apply zr
 repeat' (first|exact zt|apply zi|refine CallX.pure (c_Starts f hok.2.1) rfl rfl rfl ?_|fail)
 intro _
 repeat (first|apply zq|apply zb|apply zk)
 apply zr
 repeat' (first|exact zt|apply zi|fail)
 all_goals first|exact fun _=>hw2|exact rfl|(rw [hw1]; exact Int.natCast_nonneg _)|(show 1 * _≤_; rw [hw1]; show 1 * ((startF f.Blocks f.Blocks.length).toNat+1)≤_; omega)|skip
 intro _
 refine AWp.rename 17 61 rfl rfl ?_
 repeat (first|apply zq|apply zb|apply zk)
 apply zr;intro _
 repeat (first|apply zq|apply zb|apply zk)
 refine AWp.loop (fun b:Nat=>⟨[(1,.ptr f.cells),(3,ints (startsF f.Blocks)),(4,.sl 61 ((startF f.Blocks f.Blocks.length).toNat+1)),(19,roL 3 Blk.cells f.Blocks),(20,.i64 f.Blocks.length),(21,.i64 b)],[(61,rowQ ((startF f.Blocks f.Blocks.length).toNat+1) (fun p=>anyB (smK f (p:Nat)) b))]⟩) (fun b=>b≤f.Blocks.length) (fun b=>f.Blocks.length - b) 0 (Nat.zero_le _) ?_ ?_
 ·refine zi ?_ (zi ⟨_,_,rfl,congrArg Int.toNat hw1,fun z hz=>rfl⟩ (zi zt zt))
  repeat' (first|exact rfl|exact zt|exact congrArg (fun z:Int=>some (AV.sl 61 z.toNat)) hw1|apply zi)
 intro b hb0
 repeat (first|apply zq|apply zb|apply zk)
 apply zr;intro _
 repeat (first|apply zq|apply zb|apply zk)
 apply AWp.cond;apply zi<;>intro h1
 ·have hb:b<f.Blocks.length:=zd h1
  have hil:(blkA f b).Instrs.length≤40:=hC.e.siz.instrs b hb
  have him:(blkA f b).Instrs.length≤maxLen:=by unfold maxLen; omega
  have hs0:=startF_bd hC b hb0
  have hst:=startF_top hC hb
  have hsb:(startsF f.Blocks).getD b default=(startF f.Blocks b):=hget b hb0
  have ho1:0≤(b:Int)∧(b:Int)<((startsF f.Blocks).length:Int):=by rw [hlen]; omega
  have ho2:0≤(startsF f.Blocks).getD b default∧(startsF f.Blocks).getD b default<(((startF f.Blocks f.Blocks.length).toNat+1):Nat):=by rw [hsb]; omega
  have ho3:((startsF f.Blocks).getD b default).toNat<((startF f.Blocks f.Blocks.length).toNat+1):=by omega
  repeat (first|apply zq|apply zb|apply zk)
  apply zr
  repeat' (first|exact zt|apply zi|fail)
  all_goals first|exact fun _=>nn hb|skip
  intro _
  refine AWp.freezeObj 6 rfl rfl ?_
  repeat (first|apply zq|apply zb|apply zk)
  apply zr
  repeat' (first|exact zt|apply zi|fail)
  all_goals first|exact fun _=>ho1|exact fun _=>ho2|exact fun _=>ho3|exact ho3|skip
  intro _
  repeat (first|apply zq|apply zb|apply zk)
  apply zr;intro _
  repeat (first|apply zq|apply zb|apply zk)
  refine AWp.loop (fun i:Nat=>⟨[(1,.ptr f.cells),(3,ints (startsF f.Blocks)),(4,.sl 61 ((startF f.Blocks f.Blocks.length).toNat+1)),(19,roL 3 Blk.cells f.Blocks),(20,.i64 f.Blocks.length),(21,.i64 b),(5,.i64 b),(34,.i64 (blkA f b).Instrs.length),(35,.i64 i)],[(61,rowQ ((startF f.Blocks f.Blocks.length).toNat+1) (smI f b i))]⟩) (fun i=>i≤(blkA f b).Instrs.length) (fun i=>(blkA f b).Instrs.length - i) 0 (Nat.zero_le _) ?_ ?_
  ·refine zi ?_ (zi ⟨_,_,rfl,rfl,fun z hz=>?_⟩ (zi zt zt))
   ·repeat' (first|exact rfl|exact zt|apply zi)
   ·show [AV.bool (smI f b 0 z)]=if z=((startsF f.Blocks).getD b default).toNat then _ else _
    rw [smI_zero,hsb]
    by_cases e:(z:Int)=(startF f.Blocks b)
    ·rw [if_pos e,if_pos (by omega)]; rfl
    ·rw [if_neg e,if_neg (by omega)]
  intro i hi0
  repeat (first|apply zq|apply zb|apply zk)
  apply zr;intro _
  repeat (first|apply zq|apply zb|apply zk)
  apply AWp.cond;apply zi<;>intro h2
  ·have hi:i<(blkA f b).Instrs.length:=zd h2
   have hw3:IntKind.i64.wrap (IntKind.i64.wrap ((startsF f.Blocks).getD b default+1)+IntKind.i64.wrap (2 * (i:Int)))=(startF f.Blocks b)+1+2 * (i:Int):=by
    rw [hsb,wrap_in (n:=(startF f.Blocks b)+1) (by omega) (by omega),wrap_in (n:=2 * (i:Int)) (by omega) (by omega),wrap_in (by omega) (by omega)]
   have ho2:0≤IntKind.i64.wrap (IntKind.i64.wrap ((startsF f.Blocks).getD b default+1)+IntKind.i64.wrap (2 * (i:Int)))∧IntKind.i64.wrap (IntKind.i64.wrap ((startsF f.Blocks).getD b default+1)+IntKind.i64.wrap (2 * (i:Int)))<(((startF f.Blocks f.Blocks.length).toNat+1):Nat):=by rw [hw3]; omega
   have ho3:(IntKind.i64.wrap (IntKind.i64.wrap ((startsF f.Blocks).getD b default+1)+IntKind.i64.wrap (2 * (i:Int)))).toNat<((startF f.Blocks f.Blocks.length).toNat+1):=by omega
   repeat (first|apply zq|apply zb|apply zk)
   apply zr;intro _
   repeat (first|apply zq|apply zb|apply zk)
   apply zr
   repeat' (first|exact zt|apply zi|fail)
   all_goals first|exact fun _=>ho1|exact fun _=>ho2|exact fun _=>ho3|exact ho3|skip
   intro _
   repeat (first|apply zq|apply zb|apply zk)
   apply zr;intro _
   refine round_end (i+1) hi ?_ (by omega)
   refine zi ?_ (zi ⟨_,_,rfl,rfl,fun z hz=>?_⟩ (zi zt zt))
   ·repeat' (first|exact rfl|exact zt|exact zw hi him|apply zi)
   ·show [AV.bool (smI f b (i+1) z)]=if z=(IntKind.i64.wrap (IntKind.i64.wrap ((startsF f.Blocks).getD b default+1)+IntKind.i64.wrap (2 * (i:Int)))).toNat then _ else _
    rw [smI_succ,hw3]
    by_cases e:(z:Int)=(startF f.Blocks b)+1+2 * (i:Int)
    ·rw [if_pos e,if_pos (by omega)]; rfl
    ·rw [if_neg e,if_neg (by omega)]
  have hi3:¬ (i:Int)<(blkA f b).Instrs.length:=of_decide_eq_false h2
  obtain rfl:i=(blkA f b).Instrs.length:=by omega
  apply ze
  repeat (first|apply zq|apply zb|apply zk)
  apply zr;intro _
  refine round_end (b+1) hb ?_ (by omega)
  refine zi ?_ (zi ⟨_,_,rfl,rfl,fun z hz=>congrArg (fun q:Bool=>[AV.bool q]) smI_end.symm⟩ (zi zt zt))
  repeat' (first|exact rfl|exact zt|exact zw hb hbm|apply zi)
 have hb3:¬ (b:Int)<f.Blocks.length:=of_decide_eq_false h1
 obtain rfl:b=f.Blocks.length:=by omega
 apply ze
 repeat (first|apply zq|apply zb|apply zk)
 apply zr;intro _
 refine AWp.freeze 61 (fun p=>[.bool (smB f (p:Nat))]) rfl (fun i hi=>rfl) ?_
 refine AWp.ret ⟨Or.inl rfl,rfl,?_⟩
 intro _
 rfl
set_option maxRecDepth 8000 in
set_option maxHeartbeats 8000000 in
theorem c_cover (f:Fun) (S:List (Int×Int)) (L:List Hom) (hS:S.length≤maxLen) (hL:L.length≤maxLen) (hs:∀ s,s∈S→0≤s.1∧s.2≤startF f.Blocks f.Blocks.length):ACallIs B.P 16 [spV S,homV L,seamV f] (.bool (cov (smN f) S L)):=by
 refine ACallIs.enter B _ _ Tryz.func16 rfl rfl Tryz.ntmps16 Tryz.results16 rfl fun _=>?_
 repeat (first|apply zq|apply zb|apply zk)
 apply zr;intro _
 repeat (first|apply zq|apply zb|apply zk)
 apply zr;intro _
 repeat (first|apply zq|apply zb|apply zk)
 apply zr;intro _
 repeat (first|apply zq|apply zb|apply zk)
 refine AWp.loop (fun s:Nat×Nat=>⟨[(1,homV L),(2,seamV f),(7,.i64 s.2),(11,spV S),(12,.i64 S.length),(13,.i64 s.1)],[]⟩) (fun s=>s.1≤S.length∧s.2≤L.length∧cov (smN f) S L=cov (smN f) (S.drop s.1) (L.drop s.2)) (fun s=>S.length - s.1) (0,0) ⟨Nat.zero_le _,Nat.zero_le _,rfl⟩ ?_ ?_
 ·repeat' (first|exact rfl|exact zt|apply zi)
 rintro ⟨i,k⟩ ⟨hi0,hk0,hcv⟩
 have hi0:i≤S.length:=hi0
 have hk0:k≤L.length:=hk0
 have hcv:cov (smN f) S L=cov (smN f) (S.drop i) (L.drop k):=hcv
 show AWp B _ _ ⟨[(1,homV L),(2,seamV f),(7,.i64 k),(11,spV S),(12,.i64 S.length),(13,.i64 i)],[]⟩ _
 repeat (first|apply zq|apply zb|apply zk)
 apply zr;intro _
 repeat (first|apply zq|apply zb|apply zk)
 apply AWp.cond;apply zi<;>intro h1
 ·have hi:i<S.length:=zd h1
  have hsi:=hs (S.getD i default) (getD_mem hi)
  have hd:S.drop i=(S.getD i default)::S.drop (i+1):=by rw [List.drop_eq_getElem_cons hi,List.getD_eq_getElem?_getD,List.getElem?_eq_getElem hi]; rfl
  rw [hd] at hcv
  repeat (first|apply zq|apply zb|apply zk)
  apply zr
  repeat' (first|exact zt|apply zi|fail)
  all_goals first|exact fun _=>nn hi|skip
  intro _
  refine AWp.freezeObj 9 rfl rfl ?_
  repeat (first|apply zq|apply zb|apply zk)
  apply zr;intro _
  repeat (first|apply zq|apply zb|apply zk)
  refine AWp.loop (fun s:Nat×Int=>⟨[(1,homV L),(2,seamV f),(7,.i64 s.1),(9,.ptr (spC (S.getD i default))),(10,.i64 s.2),(11,spV S),(12,.i64 S.length),(13,.i64 i)],[]⟩) (fun s=>s.1≤L.length∧(S.getD i default).1≤s.2∧cov (smN f) S L=match til (smN f) (S.getD i default) s.2 (L.drop s.1) with|none=>false|some r=>cov (smN f) (S.drop (i+1)) r) (fun s=>L.length - s.1) (k,(S.getD i default).1) ⟨hk0,Int.le_refl _,hcv⟩ ?_ ?_
  ·repeat' (first|exact rfl|exact zt|apply zi)
  rintro ⟨k,a⟩ ⟨hk0,ha0,hcv⟩
  have hk0:k≤L.length:=hk0
  have ha0:(S.getD i default).1≤a:=ha0
  have hcv:cov (smN f) S L=match til (smN f) (S.getD i default) a (L.drop k) with|none=>false|some r=>cov (smN f) (S.drop (i+1)) r:=hcv
  show AWp B _ _ ⟨[(1,homV L),(2,seamV f),(7,.i64 k),(9,.ptr (spC (S.getD i default))),(10,.i64 a),(11,spV S),(12,.i64 S.length),(13,.i64 i)],[]⟩ _
  repeat (first|apply zq|apply zb|apply zk)
  apply zr;intro _
  repeat (first|apply zq|apply zb|apply zk)
  apply AWp.cond;apply zi<;>intro h2
  ·have ha:a<(S.getD i default).2:=of_decide_eq_true h2
   have hkn:k≠L.length→0≤(k:Int)∧(k:Int)<(L.length:Int):=fun h=>by omega
   have hkq:∀ x:Bool,((bif ((k:Int)==(L.length:Int)) then true else x)==false)=true→k≠L.length:=fun x hh e=>by rw [e] at hh; simp at hh
   have hkp:(((k:Int)==(L.length:Int))==false)=true→k≠L.length:=fun hh e=>by rw [e] at hh; simp at hh
   have hkr:∀ x y:Bool,((bif (bif ((k:Int)==(L.length:Int)) then true else x) then true else y)==false)=true→k≠L.length:=fun x y hh e=>by rw [e] at hh; simp at hh
   repeat (first|apply zq|apply zb|apply zk)
   refine AWp.draw mixed (by kernel_rfl) ?_
   repeat' (first|exact zt|apply zi|fail)
   all_goals first|exact fun hh=>hkn (hkp hh)|exact fun hh=>hkn (hkq _ hh)|exact fun hh=>hkn (hkr _ _ hh)|exact fun hh=>hh|exact gF|exact gN|(intro hh; simpa using hh)|skip
   intro _
   repeat (first|apply zq|apply zb|apply zk)
   apply AWp.cond;apply zi<;>intro h3
   ·have h3:(bif (bif (bif ((k:Int)==(L.length:Int)) then true else ((L.getD k default).From != a)) then true else decide ((L.getD k default).To≤a)) then true else decide ((L.getD k default).To>(S.getD i default).2))=true:=h3
    repeat (first|apply zq|apply zb|apply zk)
    apply zr;intro _
    refine AWp.ret ⟨Or.inl rfl,rfl,?_⟩
    intro _
    refine tupB (Eq.symm ?_)
    rw [hcv,til_no ha]
    intro hkl hh
    simp only [bif_or3,Bool.or_eq_true,beq_iff_eq,bne_iff_ne,decide_eq_true_eq] at h3
    obtain ⟨⟨q1,q2,q3⟩,_⟩:=hh
    rcases h3 with ((h3|h3)|h3)|h3<;>omega
   have h3:(bif (bif (bif ((k:Int)==(L.length:Int)) then true else ((L.getD k default).From != a)) then true else decide ((L.getD k default).To≤a)) then true else decide ((L.getD k default).To>(S.getD i default).2))=false:=h3
   simp only [bif_or3,Bool.or_eq_false_iff,beq_eq_false_iff_ne,bne_eq_false_iff_eq,decide_eq_false_iff_not] at h3
   obtain ⟨⟨⟨q0,q1⟩,q2⟩,q3⟩:=h3
   have hk:k<L.length:=by omega
   have hsm:0≤a∧a<(((startF f.Blocks f.Blocks.length).toNat+1:Nat):Int):=by omega
   refine AWp.skip ?_
   repeat (first|apply zq|apply zb|apply zk)
   apply zr
   repeat' (first|exact zt|apply zi|fail)
   all_goals first|exact fun _=>hsm|exact fun hh=>hh|exact gT|exact gA|skip
   intro _
   repeat (first|apply zq|apply zb|apply zk)
   apply AWp.cond;apply zi<;>intro h4
   ·have h4:(bif (a != (S.getD i default).1) then !smB f (a.toNat:Nat) else false)=true:=h4
    repeat (first|apply zq|apply zb|apply zk)
    apply zr;intro _
    refine AWp.ret ⟨Or.inl rfl,rfl,?_⟩
    intro _
    refine tupB (Eq.symm ?_)
    rw [hcv,til_no ha]
    intro hkl hh
    rw [bif_and3,Bool.and_eq_true,bne_iff_ne,Bool.not_eq_true'] at h4
    rcases hh.2 with e|e
    ·exact h4.1 e
    ·exact Bool.noConfusion (h4.2.symm.trans e)
   have h4:(bif (a != (S.getD i default).1) then !smB f (a.toNat:Nat) else false)=false:=h4
   have hgo:((L.getD k default).From=a∧a<(L.getD k default).To∧(L.getD k default).To≤(S.getD i default).2)∧(a=(S.getD i default).1∨smN f a=true):=by
    refine ⟨⟨q1,by omega,by omega⟩,?_⟩
    rw [bif_and3,Bool.and_eq_false_iff,bne_eq_false_iff_eq,Bool.not_eq_false'] at h4
    exact h4
   refine AWp.skip ?_
   repeat (first|apply zq|apply zb|apply zk)
   apply zr
   repeat' (first|exact zt|apply zi|fail)
   all_goals first|exact fun _=>nn hk|skip
   intro _
   repeat (first|apply zq|apply zb|apply zk)
   apply zr;intro _
   refine Exists.intro (k+1,(L.getD k default).To) (zi ⟨hk,(show (S.getD i default).1≤(L.getD k default).To by omega),hcv.trans (by rw [til_go ha hk hgo])⟩ (zi ?_ (show L.length - (k+1)<L.length - k by omega)))
   repeat' (first|exact rfl|exact zt|exact zw hk hL|apply zi)
  have hn:¬ a<(S.getD i default).2:=of_decide_eq_false h2
  rw [til_end hn] at hcv
  apply ze
  repeat (first|apply zq|apply zb|apply zk)
  apply zr;intro _
  refine round_end (i+1,k) ⟨hi,hk0,hcv⟩ ?_ (show S.length - (i+1)<S.length - i by omega)
  repeat' (first|exact rfl|exact zt|exact zw hi hS|apply zi)
 have hi3:¬ (i:Int)<S.length:=of_decide_eq_false h1
 obtain rfl:i=S.length:=by omega
 apply ze
 repeat (first|apply zq|apply zb|apply zk)
 apply zr;intro _
 refine AWp.ret ⟨Or.inl rfl,rfl,?_⟩
 intro _
 refine tupB ?_
 rw [hcv,List.drop_length]
 show ((k:Int)==(L.length:Int))=(L.drop k).isEmpty
 by_cases e:k=L.length
 ·rw [e,List.drop_length]; simp
 ·rw [drop_at (show k<L.length by omega)]
  simp
  omega
end Go.Proofs.YtbmccmbgnkbmiaaGreat

/- Claims of instructions: claim.Claims and the document's ClaimsOf -/
import Derived.Test.YtbmccmbgnkbmiaaGreatSrt
set_option linter.unusedVariables false
set_option linter.unusedSimpArgs false
namespace Go.Proofs.YtbmccmbgnkbmiaaGreat
open Go Go.Abs Go.RowKit Go.Abs.Gra
structure ClmOk (f:Fun) (x:Ins):Prop where
 v:VOk f
 all:OpsAll f x
 cl:∀ k,k<x.Operands.length→cls f (tgt x (x.Operands.getD k default)).Value=cls f (x.Operands.getD k default).Value
 sp:∀ k,k<x.Spoils.length→(0≤(x.Spoils.getD k default).Class∧(x.Spoils.getD k default).Class<2)∧(0≤(x.Spoils.getD k default).N∧(x.Spoils.getD k default).N<10)
theorem clm_ok {f:Fun} {m:Mch} (h:chkF f m=0) (hz:SizOk f) (hv:VOk f) {b a:Nat} (hb:b<f.Blocks.length) (ha:a<(f.Blocks.getD b default).Instrs.length):ClmOk f ((f.Blocks.getD b default).Instrs.getD a default):=by
 have hm:machF m=0:=Classical.byContradiction fun hn=>hn (by rw [chkF_1 hn] at h; exact h)
 obtain ⟨h1,h2,h3,h4,h5⟩:=chkF_zero h
 have hi:=(blkF_zero (firstF_zero h4 b hb)).1
 have hi2:insF f m ((f.Blocks.getD b default).Instrs.getD a default)=0:=firstF_zero hi a ha
 have hl:=hz.ops b a hb ha
 have hs:=hz.spo b a hb ha
 generalize (f.Blocks.getD b default).Instrs.getD a default=x at *
 have g1:¬ (x.Op<0∨255<x.Op):=fun hn=>by rw [insF_op hn] at hi2; cases hi2
 have g2:firstF (opdG f m x) x.Operands.length=0:=Classical.byContradiction fun hn=>by rw [insF_a g1 rfl hn] at hi2; exact hn hi2
 have g3:firstF (reuG f x) x.Operands.length=0:=Classical.byContradiction fun hn=>by rw [insF_b g1 g2 rfl hn] at hi2; exact hn hi2
 have g4:firstF (spoG m x.Spoils) x.Spoils.length=0:=Classical.byContradiction fun hn=>by rw [insF_s g1 g2 g3 rfl hn] at hi2; exact hn hi2
 have o1:∀ j,j<x.Operands.length→valB f (x.Operands.getD j default).Value=true∧((x.Operands.getD j default).Kind=1∨(x.Operands.getD j default).Kind=2)∧(1≤(x.Operands.getD j default).Limit∧(x.Operands.getD j default).Limit≤5)∧((x.Operands.getD j default).Limit=4→0≤(x.Operands.getD j default).N∧(x.Operands.getD j default).N<10):=fun j hj=>opdF_ok hm (firstF_zero g2 j hj)
 have o2:∀ j,j<x.Operands.length→(x.Operands.getD j default).Limit=5→reuF f x (x.Operands.getD j default)=0:=fun j hj h5=>by
  have:=firstF_zero g3 j hj
  unfold reuG at this
  rwa [if_pos h5] at this
 refine ⟨hv,⟨⟨hl,fun j hj=>(o1 j hj).1,fun j hj=>(o1 j hj).2.1,fun j hj=>(o1 j hj).2.2.1,fun j hj=>(o1 j hj).2.2.2⟩,fun j hj h5=>?_,hs⟩,fun k hk=>?_,fun k hk=>spoG_ok hm (firstF_zero g4 k hk)⟩
 ·have:=o2 j hj h5
  unfold reuF at this
  split at this
  ·cases this
  ·omega
 ·by_cases h5:(x.Operands.getD k default).Limit=5
  ·have:=o2 k hk h5
   unfold reuF at this
   split at this
   ·cases this
   ·split at this
    ·cases this
    ·split at this
     ·cases this
     ·rename_i e
      unfold tgt
      rw [if_pos h5]
      exact Classical.byContradiction e
  ·unfold tgt
   rw [if_neg h5]
def cwS (e:Int) (r:Rg):C5:=(r.Class,r.N,e+1,e+2,-1)
def cwO (f:Fun) (x:Ins) (e:Int) (o:Opd):C5:=(cls f o.Value,(tgt x o).N,(bif o.Kind==2&&o.Late then e+1 else e),(bif o.Kind==1&&!o.Late then e+1 else e+2),o.Value)
def cwSk (x:Ins) (e:Int):Nat→List C5
 | 0=>[]
 | i+1=>cwSk x e i++[cwS e (x.Spoils.getD i default)]
def cwOk (f:Fun) (x:Ins) (e:Int):Nat→List C5
 | 0=>cwSk x e x.Spoils.length
 | k+1=>if (tgt x (x.Operands.getD k default)).Limit=4 then cwOk f x e k++[cwO f x e (x.Operands.getD k default)] else cwOk f x e k
def cwI (f:Fun) (x:Ins) (e:Int):List C5:=cwOk f x e x.Operands.length
theorem cwSk_len {x:Ins} {e:Int}:∀ i,(cwSk x e i).length=i
 | 0=>rfl
 | i+1=>by simp [cwSk,cwSk_len i]
theorem cwOk_len {f:Fun} {x:Ins} {e:Int}:∀ k,(cwOk f x e k).length≤x.Spoils.length+k
 | 0=>by simp [cwOk,cwSk_len]
 | k+1=>by
  have:=cwOk_len (f:=f) (x:=x) (e:=e) k
  unfold cwOk
  split<;>simp<;>omega
@[reducible] def claims (L:List C5):AV:=.ro 5 L.length (fun i=>clA (L.getD i default))
theorem snocC {L:List C5} {p:C5} {i:Nat} (hi:i<(L++[p]).length):clA ((L++[p]).getD i default)=if i<L.length then clA (L.getD i default) else clA p:=by
 by_cases e:i<L.length
 ·rw [if_pos e]
  simp only [List.getD_eq_getElem?_getD,List.getElem?_append_left e]
 ·rw [if_neg e]
  have:i=L.length:=by simp at hi; omega
  subst this
  simp [List.getD_eq_getElem?_getD]
theorem bif_and (a b:Bool):(bif a then b else false)=(a&&b):=by cases a<;>rfl
theorem sn_len {L:List C5} {p:C5}:L.length+1=(L++[p]).length:=by simp
set_option maxRecDepth 4000 in
set_option maxHeartbeats 4000000 in
theorem c_claims (f:Fun) (x:Ins) (h:ClmOk f x) (e:Int) (he:0≤e∧e≤1000000):ACallIs B.P 44 [f.av,x.av,.i64 e] (claims (cwI f x e)):=by
 have hs:=h.all.spo
 have ho:=h.all.ok.len
 have hsm:x.Spoils.length≤maxLen:=by unfold maxLen; omega
 have hom:x.Operands.length≤maxLen:=by unfold maxLen; omega
 have w1:IntKind.i64.wrap (e+1)=e+1:=wrap_in (by omega) (by omega)
 have w2:IntKind.i64.wrap (e+2)=e+2:=wrap_in (by omega) (by omega)
 refine ACallIs.enter B _ _ Tryz.func44 rfl rfl Tryz.ntmps44 Tryz.results44 rfl fun _=>?_
 repeat (first|apply zq|apply zb|apply zk)
 apply zr;intro _
 refine AWp.freezeObj 3 rfl rfl ?_
 refine AWp.freezeObj 4 rfl rfl ?_
 repeat (first|apply zq|apply zb|apply zk)
 apply zr;intro _
 refine AWp.adopt 7 91 70 5 rfl rfl rfl ?_
 repeat (first|apply zq|apply zb|apply zk)
 apply zr;intro _
 repeat (first|apply zq|apply zb|apply zk)
 refine AWp.loop (fun i:Nat=>⟨[(2,.i64 e),(3,.ptr f.cells),(4,.ptr x.cells),(7,.sl 91 (cwSk x e i).length),(15,.ro 2 x.Spoils.length (fun j=>(x.Spoils.getD j default).cells)),(16,.i64 x.Spoils.length),(17,.i64 i)],[(91,rowC (cwSk x e i))]⟩) (fun i=>i≤x.Spoils.length) (fun i=>x.Spoils.length - i) 0 (Nat.zero_le _) ?_ ?_
 ·refine zi ?_ (zi ⟨_,_,rfl,rfl,fun i hi=>absurd hi (Nat.not_lt_zero _)⟩ (zi zt zt))
  repeat' (first|exact rfl|exact zt|apply zi)
 intro i hi
 repeat (first|apply zq|apply zb|apply zk)
 apply zr;intro _
 repeat (first|apply zq|apply zb|apply zk)
 apply AWp.cond;apply zi<;>intro h1
 ·have hi':i<x.Spoils.length:=zd h1
  have hl:=cwSk_len (x:=x) (e:=e) i
  repeat (first|apply zq|apply zb|apply zk)
  apply zr
  repeat' (first|exact zt|apply zi|fail)
  all_goals first|exact fun _=>nn (hi')|skip
  intro _
  refine AWp.freezeObj 9 rfl rfl ?_
  repeat (first|apply zq|apply zb|apply zk)
  apply zr
  repeat' (first|exact zt|apply zi|fail)
  all_goals first|exact Nat.le_refl _|exact rfl|exact fun _ _=>rfl|(intro j hj; obtain rfl:j=0:=(by omega); exact rfl)|omega|skip
  intro _
  refine AWp.rename 30 91 rfl rfl ?_
  repeat (first|apply zq|apply zb|apply zk)
  apply zr;intro _
  refine round_end (i+1) hi' ?_ (by omega)
  refine zi ?_ (zi ⟨_,_,rfl,(sn_len (L:=cwSk x e i) (p:=cwS e (x.Spoils.getD i default))),fun j hj=>?_⟩ (zi zt zt))
  ·repeat' (first|exact rfl|exact zt|exact congrArg (fun n=>some (AV.sl 91 n)) (sn_len (L:=cwSk x e i) (p:=cwS e (x.Spoils.getD i default)))|exact zw hi' hsm|apply zi)
  ·refine Eq.trans (snocC (L:=cwSk x e i) (p:=cwS e (x.Spoils.getD i default)) hj) ?_
   by_cases e2:j<(cwSk x e i).length
   ·exact Eq.trans (if_pos e2) (if_pos e2).symm
   ·have e3:j - (cwSk x e i).length=0:=by
     have hj:j<(cwSk x e i++[cwS e (x.Spoils.getD i default)]).length:=hj
     rw [List.length_append] at hj; simp at hj; omega
    refine Eq.trans (if_neg e2) (Eq.trans ?_ (if_neg e2).symm)
    show _=([[AV.i64 (x.Spoils.getD i default).Class,AV.i64 (x.Spoils.getD i default).N,AV.i64 (IntKind.i64.wrap (e+1)),AV.i64 (IntKind.i64.wrap (e+2)),AV.i64 (-1)]].getD (j - (cwSk x e i).length) []:List AV)
    rw [e3,w1,w2]; rfl
 have hi3:¬ (i:Int)<x.Spoils.length:=of_decide_eq_false h1
 obtain rfl:i=x.Spoils.length:=by omega
 apply ze
 repeat (first|apply zq|apply zb|apply zk)
 apply zr;intro _
 repeat (first|apply zq|apply zb|apply zk)
 refine AWp.loop (fun k:Nat=>⟨[(2,.i64 e),(3,.ptr f.cells),(4,.ptr x.cells),(7,.sl 91 (cwOk f x e k).length),(33,.ro 5 x.Operands.length (fun j=>(x.Operands.getD j default).cells)),(34,.i64 x.Operands.length),(35,.i64 k)],[(91,rowC (cwOk f x e k))]⟩) (fun k=>k≤x.Operands.length) (fun k=>x.Operands.length - k) 0 (Nat.zero_le _) ?_ ?_
 ·refine zi ?_ (zi ⟨_,_,rfl,rfl,zg⟩ (zi zt zt))
  repeat' (first|exact rfl|exact zt|apply zi)
 intro k hk
 repeat (first|apply zq|apply zb|apply zk)
 apply zr;intro _
 repeat (first|apply zq|apply zb|apply zk)
 apply AWp.cond;apply zi<;>intro h1
 ·have hk':k<x.Operands.length:=zd h1
  have hl:=cwOk_len (f:=f) (x:=x) (e:=e) k
  have hv:=idx_ok (h.all.ok.val k hk')
  repeat (first|apply zq|apply zb|apply zk)
  apply zr
  repeat' (first|exact zt|apply zi|fail)
  all_goals first|exact fun _=>nn (hk')|skip
  intro _
  refine AWp.freezeObj 11 rfl rfl ?_
  repeat (first|apply zq|apply zb|apply zk)
  apply zr;intro _
  repeat (first|apply zq|apply zb|apply zk)
  apply zr;intro _
  repeat (first|apply zq|apply zb|apply zk)
  refine AWp.mono (Q:=fun e' t=>e'=.normal∧Sub ⟨[(2,.i64 e),(3,.ptr f.cells),(4,.ptr x.cells),(7,.sl 91 (cwOk f x e k).length),(33,.ro 5 x.Operands.length (fun j=>(x.Operands.getD j default).cells)),(34,.i64 x.Operands.length),(35,.i64 k),(11,.ptr (x.Operands.getD k default).cells),(12,.obj 12 0)],[(91,rowC (cwOk f x e k)),(12,.cells (tgt x (x.Operands.getD k default)).cells)]⟩ t) ?_ ?_
  ·repeat (first|apply zq|apply zb|apply zk)
   apply AWp.cond;apply zi<;>intro h2
   ·have h5:(x.Operands.getD k default).Limit=5:=by simpa using h2
    have hr:=h.all.reu k hk' h5
    repeat (first|apply zq|apply zb|apply zk)
    apply zr
    repeat' (first|exact zt|apply zi|fail)
    all_goals first|exact fun _=>hr|skip
    intro _
    have ht:tgt x (x.Operands.getD k default)=x.Operands.getD (x.Operands.getD k default).N.toNat default:=by unfold tgt; rw [if_pos h5]; rfl
    rw [ht]
    refine zi rfl ?_
    refine zi ?_ (zi ⟨_,_,rfl,rfl,zg⟩ (zi zt (zi ?_ (zi ?_ zt))))
    all_goals repeat' (first|exact rfl|exact zt|apply zi)
   ·have h5:¬ (x.Operands.getD k default).Limit=5:=by simpa using h2
    refine AWp.skip ?_
    refine zi rfl ?_
    have ht:tgt x (x.Operands.getD k default)=(x.Operands.getD k default):=if_neg h5
    rw [ht]
    refine zi ?_ (zi ⟨_,_,rfl,rfl,zg⟩ (zi zt (zi ?_ (zi ?_ zt))))
    all_goals repeat' (first|exact rfl|exact zt|apply zi)
  rintro _ _ ⟨rfl,hs1⟩
  refine AWp.weaken hs1 ?_
  refine AWp.freezeObj 12 rfl rfl ?_
  repeat (first|apply zq|apply zb|apply zk)
  apply zr;intro _
  repeat (first|apply zq|apply zb|apply zk)
  apply AWp.cond;apply zi<;>intro h3
  ·have h4:¬ (tgt x (x.Operands.getD k default)).Limit=4:=by simpa using h3
   have hn:cwOk f x e (k+1)=cwOk f x e k:=if_neg h4
   apply ze
   repeat (first|apply zq|apply zb|apply zk)
   apply zr;intro _
   refine round_end (k+1) hk' ?_ (by omega)
   rw [hn]
   refine zi ?_ (zi ⟨_,_,rfl,rfl,zg⟩ (zi zt zt))
   repeat' (first|exact rfl|exact zt|exact zw hk' hom|apply zi)
  have h4:(tgt x (x.Operands.getD k default)).Limit=4:=by simpa using h3
  have hn:cwOk f x e (k+1)=cwOk f x e k++[cwO f x e (x.Operands.getD k default)]:=if_pos h4
  have hc:=h.cl k hk'
  refine AWp.skip ?_
  repeat (first|apply zq|apply zb|apply zk)
  apply zr;intro _
  refine AWp.seq ?_
  refine AWp.mono (Q:=fun e' t=>e'=.normal∧Sub ⟨[(2,.i64 e),(3,.ptr f.cells),(4,.ptr x.cells),(7,.sl 91 (cwOk f x e k).length),(33,.ro 5 x.Operands.length (fun j=>(x.Operands.getD j default).cells)),(34,.i64 x.Operands.length),(35,.i64 k),(11,.ptr (x.Operands.getD k default).cells),(12,.ptr (tgt x (x.Operands.getD k default)).cells),(13,.obj 13 0)],[(91,rowC (cwOk f x e k)),(13,.cells [.i64 (bif (x.Operands.getD k default).Kind==2&&(x.Operands.getD k default).Late then e+1 else e),.i64 (bif (x.Operands.getD k default).Kind==1&&!(x.Operands.getD k default).Late then e+1 else e+2)])]⟩ t) ?_ ?_
  ·refine AWp.block ?_
   repeat (first|apply zq|apply zb|apply zk)
   apply zr
   repeat' (first|exact zt|apply zi|fail)
   all_goals first|exact fun h=>h|exact gT|exact gF|exact gN|exact gA|skip
   intro _
   repeat (first|apply zq|apply zb|apply zk)
   apply AWp.cond;apply zi<;>intro h6
   ·have q6:((x.Operands.getD k default).Kind==1&&!(x.Operands.getD k default).Late)=true:=(bif_and _ _).symm.trans h6
    have hF:(bif (x.Operands.getD k default).Kind==2&&(x.Operands.getD k default).Late then e+1 else e)=e:=by
     simp only [Bool.and_eq_true,Bool.not_eq_true',beq_iff_eq] at q6
     rw [q6.2,Bool.and_false]; rfl
    have hT:(bif (x.Operands.getD k default).Kind==1&&!(x.Operands.getD k default).Late then e+1 else e+2)=e+1:=by rw [q6]; rfl
    repeat (first|apply zq|apply zb|apply zk)
    apply zr;intro _
    refine zi rfl ?_
    rw [hF,hT]
    refine zi ?_ (zi ⟨_,_,rfl,rfl,zg⟩ (zi zt (zi ?_ (zi ?_ zt))))
    all_goals repeat' (first|exact rfl|exact zt|exact (show some (HO.cells [AV.i64 e,AV.i64 (IntKind.i64.wrap (IntKind.i64.wrap (e+2) - 1))])=some (HO.cells [AV.i64 e,AV.i64 (e+1)]) by rw [w2,show e+2 - 1=e+1 by omega,w1])|apply zi)
   have q6:((x.Operands.getD k default).Kind==1&&!(x.Operands.getD k default).Late)=false:=(bif_and _ _).symm.trans h6
   have hT:(bif (x.Operands.getD k default).Kind==1&&!(x.Operands.getD k default).Late then e+1 else e+2)=e+2:=by rw [q6]; rfl
   repeat (first|apply zq|apply zb|apply zk)
   apply zr
   repeat' (first|exact zt|apply zi|fail)
   all_goals first|exact fun h=>h|exact gT|exact gF|exact gN|exact gA|skip
   intro _
   repeat (first|apply zq|apply zb|apply zk)
   apply AWp.cond;apply zi<;>intro h7
   ·have q7:((x.Operands.getD k default).Kind==2&&(x.Operands.getD k default).Late)=true:=(bif_and _ _).symm.trans h7
    have hF:(bif (x.Operands.getD k default).Kind==2&&(x.Operands.getD k default).Late then e+1 else e)=e+1:=by rw [q7]; rfl
    repeat (first|apply zq|apply zb|apply zk)
    apply zr;intro _
    refine zi rfl ?_
    rw [hF,hT]
    refine zi ?_ (zi ⟨_,_,rfl,rfl,zg⟩ (zi zt (zi ?_ (zi ?_ zt))))
    all_goals repeat' (first|exact rfl|exact zt|exact (show some (HO.cells [AV.i64 (IntKind.i64.wrap (e+1)),AV.i64 (IntKind.i64.wrap (e+2))])=some (HO.cells [AV.i64 (e+1),AV.i64 (e+2)]) by rw [w2,w1])|apply zi)
   have q7:((x.Operands.getD k default).Kind==2&&(x.Operands.getD k default).Late)=false:=(bif_and _ _).symm.trans h7
   have hF:(bif (x.Operands.getD k default).Kind==2&&(x.Operands.getD k default).Late then e+1 else e)=e:=by rw [q7]; rfl
   refine AWp.skip ?_
   refine zi rfl ?_
   rw [hF,hT]
   refine zi ?_ (zi ⟨_,_,rfl,rfl,zg⟩ (zi zt (zi ?_ (zi ?_ zt))))
   all_goals repeat' (first|exact rfl|exact zt|exact (show some (HO.cells [AV.i64 e,AV.i64 (IntKind.i64.wrap (e+2))])=some (HO.cells [AV.i64 e,AV.i64 (e+2)]) by rw [w2])|apply zi)
  rintro _ _ ⟨rfl,hs2⟩
  refine AWp.weaken hs2 ?_
  refine AWp.freezeObj 13 rfl rfl ?_
  repeat (first|apply zq|apply zb|apply zk)
  refine AWp.quietFirst (.q 0 (.q 1 (.q 2 (.q 3 (.q 4 (.q 5 (.q 6 (.q 7 (.q 8 (.q 9 (.q 10 (.q 11 (.q 12 (.q 13 (.c 14 false (.c 15 true (.q 16 .fin) .no) .no))))))))))))))) [0,1,2,3,4,5,6,7,8,9,10,11,12,13,16] [91] mixed (by kernel_rfl) ?_
  repeat' (first|exact zt|apply zi|fail)
  all_goals first|exact fun _=>zi hv.1 hv.2|exact Nat.le_refl _|exact rfl|exact fun _ _=>rfl|(intro j hj; obtain rfl:j=0:=(by omega); exact rfl)|omega|skip
  intro _
  refine AWp.rename 96 91 rfl rfl ?_
  repeat (first|apply zq|apply zb|apply zk)
  apply zr;intro _
  refine round_end (k+1) hk' ?_ (by omega)
  rw [hn]
  refine zi ?_ (zi ⟨_,_,rfl,(sn_len (L:=cwOk f x e k) (p:=cwO f x e (x.Operands.getD k default))),fun j hj=>?_⟩ (zi zt zt))
  ·repeat' (first|exact rfl|exact zt|exact congrArg (fun n=>some (AV.sl 91 n)) (sn_len (L:=cwOk f x e k) (p:=cwO f x e (x.Operands.getD k default)))|exact zw hk' hom|apply zi)
  ·refine Eq.trans (snocC (L:=cwOk f x e k) (p:=cwO f x e (x.Operands.getD k default)) hj) ?_
   by_cases e2:j<(cwOk f x e k).length
   ·exact Eq.trans (if_pos e2) (if_pos e2).symm
   ·have e3:j - (cwOk f x e k).length=0:=by
     have hj:j<(cwOk f x e k++[cwO f x e (x.Operands.getD k default)]).length:=hj
     rw [List.length_append] at hj; simp at hj; omega
    refine Eq.trans (if_neg e2) (Eq.trans ?_ (if_neg e2).symm)
    show _=([clA (cwO f x e (x.Operands.getD k default))].getD (j - (cwOk f x e k).length) []:List AV)
    rw [e3]; rfl
 have hk3:¬ (k:Int)<x.Operands.length:=of_decide_eq_false h1
 obtain rfl:k=x.Operands.length:=by omega
 apply ze
 refine AWp.freeze 91 (fun i=>clA ((cwOk f x e x.Operands.length).getD i default)) rfl (fun i hi=>rfl) ?_
 repeat (first|apply zq|apply zb|apply zk)
 apply zr;intro _
 refine AWp.ret ⟨Or.inl rfl,rfl,?_⟩
 intro _
 rfl
@[reducible] def xAt (f:Fun) (b a:Nat):Ins:=(f.Blocks.getD b default).Instrs.getD a default
theorem stB {f:Fun} (hz:SizOk f):∀ b,b≤f.Blocks.length→0≤startF f.Blocks b∧startF f.Blocks b≤82 * (b:Int)
 | 0,_=>⟨Int.le_refl _,Int.le_refl _⟩
 | b+1,hb=>by
  obtain ⟨h1,h2⟩:=stB hz b (by omega)
  have hl:=hz.instrs b (by omega)
  have hbl:=hz.blocks
  rw [startF_succ (by omega)]
  show 0≤IntKind.i64.wrap (IntKind.i64.wrap (startF f.Blocks b+2)+IntKind.i64.wrap (2 * ((f.Blocks.getD b default).Instrs.length:Int)))∧IntKind.i64.wrap (IntKind.i64.wrap (startF f.Blocks b+2)+IntKind.i64.wrap (2 * ((f.Blocks.getD b default).Instrs.length:Int)))≤_
  rw [wrap_in (n:=startF f.Blocks b+2) (by omega) (by omega),wrap_in (n:=2 * ((f.Blocks.getD b default).Instrs.length:Int)) (by omega) (by omega),wrap_in (by omega) (by omega)]
  omega
def erl (f:Fun) (b a:Nat):Int:=startF f.Blocks b+1+2 * (a:Int)
theorem erl_bd {f:Fun} (hz:SizOk f) {b a:Nat} (hb:b<f.Blocks.length) (ha:a<(f.Blocks.getD b default).Instrs.length):0≤erl f b a∧erl f b a≤1000000:=by
 have h1:=stB hz b (by omega)
 have h2:=hz.instrs b hb
 have h3:=hz.blocks
 unfold erl
 omega
set_option maxRecDepth 4000 in
set_option maxHeartbeats 4000000 in
theorem c_claimsOf (f:Fun) (hz:SizOk f) (b a:Nat) (hb:b<f.Blocks.length) (ha:a<(f.Blocks.getD b default).Instrs.length) (h:ClmOk f (xAt f b a)):ACallIs B.P 52 [f.av,.i64 b,.i64 a] (claims (cwI f (xAt f b a) (erl f b a))):=by
 have he:=erl_bd hz hb ha
 have hs0:=stB hz b (by omega)
 have hbl:=hz.blocks
 have hil:=hz.instrs b hb
 have hbm:f.Blocks.length≤maxLen:=by unfold maxLen; omega
 have we:IntKind.i64.wrap (IntKind.i64.wrap (startF f.Blocks b+1)+IntKind.i64.wrap (2 * (a:Int)))=erl f b a:=by
  rw [wrap_in (n:=startF f.Blocks b+1) (by omega) (by omega),wrap_in (n:=2 * (a:Int)) (by omega) (by omega),wrap_in (by omega) (by omega)]; rfl
 have hs:=h.all.spo
 have ho:=h.all.ok.len
 refine ACallIs.enter B _ _ Tryz.func52 rfl rfl Tryz.ntmps52 Tryz.results52 rfl fun _=>?_
 repeat (first|apply zq|apply zb|apply zk)
 apply zr;intro _
 refine AWp.freezeObj 3 rfl rfl ?_
 repeat (first|apply zq|apply zb|apply zk)
 apply zr
 repeat' (first|exact zt|apply zi|fail)
 all_goals first|exact fun _=>nn hb|exact fun _=>nn ha|skip
 intro _
 refine AWp.freezeObj 7 rfl rfl ?_
 repeat (first|apply zq|apply zb|apply zk)
 apply zr
 refine CallX.pure (c_startOf f b (by omega) hbm) rfl rfl rfl ?_
 intro _
 repeat (first|apply zq|apply zb|apply zk)
 apply zr;intro _
 refine AWp.adopt 9 91 70 5 rfl rfl rfl ?_
 refine AWp.weaken (s':=⟨[(3,.ptr f.cells),(7,.ptr (xAt f b a).cells),(8,.i64 (erl f b a)),(9,.sl 91 0)],[(91,rowC [])]⟩) ?_ ?_
 ·refine zi ?_ (zi ⟨_,_,rfl,rfl,fun i hi=>absurd hi (Nat.not_lt_zero _)⟩ (zi zt zt))
  repeat' (first|exact rfl|exact zt|exact congrArg (fun z=>some (AV.i64 z)) we|apply zi)
 clear we hs0
 generalize erl f b a=e at *
 generalize xAt f b a=x at *
 have hsm:x.Spoils.length≤maxLen:=by unfold maxLen; omega
 have hom:x.Operands.length≤maxLen:=by unfold maxLen; omega
 have w1:IntKind.i64.wrap (e+1)=e+1:=wrap_in (by omega) (by omega)
 have w2:IntKind.i64.wrap (e+2)=e+2:=wrap_in (by omega) (by omega)
 repeat (first|apply zq|apply zb|apply zk)
 apply zr;intro _
 repeat (first|apply zq|apply zb|apply zk)
 refine AWp.loop (fun i:Nat=>⟨[(3,.ptr f.cells),(7,.ptr x.cells),(8,.i64 e),(9,.sl 91 (cwSk x e i).length),(10,.i64 i)],[(91,rowC (cwSk x e i))]⟩) (fun i=>i≤x.Spoils.length) (fun i=>x.Spoils.length - i) 0 (Nat.zero_le _) ?_ ?_
 ·refine zi ?_ (zi ⟨_,_,rfl,rfl,fun i hi=>absurd hi (Nat.not_lt_zero _)⟩ (zi zt zt))
  repeat' (first|exact rfl|exact zt|apply zi)
 intro i hi
 repeat (first|apply zq|apply zb|apply zk)
 apply zr;intro _
 repeat (first|apply zq|apply zb|apply zk)
 apply AWp.cond;apply zi<;>intro h1
 ·have hi':i<x.Spoils.length:=zd h1
  have hl:=cwSk_len (x:=x) (e:=e) i
  repeat (first|apply zq|apply zb|apply zk)
  apply zr
  repeat' (first|exact zt|apply zi|fail)
  all_goals first|exact fun _=>nn (hi')|exact Nat.le_refl _|exact rfl|exact fun _ _=>rfl|(intro j hj; obtain rfl:j=0:=(by omega); exact rfl)|omega|skip
  intro _
  refine AWp.rename 52 91 rfl rfl ?_
  repeat (first|apply zq|apply zb|apply zk)
  apply zr;intro _
  refine round_end (i+1) hi' ?_ (by omega)
  refine zi ?_ (zi ⟨_,_,rfl,(sn_len (L:=cwSk x e i) (p:=cwS e (x.Spoils.getD i default))),fun j hj=>?_⟩ (zi zt zt))
  ·repeat' (first|exact rfl|exact zt|exact congrArg (fun n=>some (AV.sl 91 n)) (sn_len (L:=cwSk x e i) (p:=cwS e (x.Spoils.getD i default)))|exact zw hi' hsm|apply zi)
  ·refine Eq.trans (snocC (L:=cwSk x e i) (p:=cwS e (x.Spoils.getD i default)) hj) ?_
   by_cases e2:j<(cwSk x e i).length
   ·exact Eq.trans (if_pos e2) (if_pos e2).symm
   ·have e3:j - (cwSk x e i).length=0:=by
     have hj:j<(cwSk x e i++[cwS e (x.Spoils.getD i default)]).length:=hj
     rw [List.length_append] at hj; simp at hj; omega
    refine Eq.trans (if_neg e2) (Eq.trans ?_ (if_neg e2).symm)
    show _=([[AV.i64 (x.Spoils.getD i default).Class,AV.i64 (x.Spoils.getD i default).N,AV.i64 (IntKind.i64.wrap (e+1)),AV.i64 (IntKind.i64.wrap (e+2)),AV.i64 (-1)]].getD (j - (cwSk x e i).length) []:List AV)
    rw [e3,w1,w2]; rfl
 have hi3:¬ (i:Int)<x.Spoils.length:=of_decide_eq_false h1
 obtain rfl:i=x.Spoils.length:=by omega
 apply ze
 repeat (first|apply zq|apply zb|apply zk)
 apply zr;intro _
 repeat (first|apply zq|apply zb|apply zk)
 refine AWp.loop (fun k:Nat=>⟨[(3,.ptr f.cells),(7,.ptr x.cells),(8,.i64 e),(9,.sl 91 (cwOk f x e k).length),(11,.i64 k)],[(91,rowC (cwOk f x e k))]⟩) (fun k=>k≤x.Operands.length) (fun k=>x.Operands.length - k) 0 (Nat.zero_le _) ?_ ?_
 ·refine zi ?_ (zi ⟨_,_,rfl,rfl,zg⟩ (zi zt zt))
  repeat' (first|exact rfl|exact zt|apply zi)
 intro k hk
 repeat (first|apply zq|apply zb|apply zk)
 apply zr;intro _
 repeat (first|apply zq|apply zb|apply zk)
 apply AWp.cond;apply zi<;>intro h1
 ·have hk':k<x.Operands.length:=zd h1
  have hl:=cwOk_len (f:=f) (x:=x) (e:=e) k
  have hfx:=c_fixedReg f x (x.Operands.getD k default) h.v (h.all.reu k hk') (tgt_val h.all hk') (tgt_n h.all hk')
  have hcl:=cls_ok h.v (tgt_val h.all hk')
  repeat (first|apply zq|apply zb|apply zk)
  apply zr
  repeat' (first|exact zt|apply zi|fail)
  all_goals first|exact fun _=>nn (hk')|skip
  intro _
  refine AWp.freezeObj 12 rfl rfl ?_
  repeat (first|apply zq|apply zb|apply zk)
  apply zr
  refine CallX.pure hfx rfl rfl rfl ?_
  intro _
  repeat (first|apply zq|apply zb|apply zk)
  apply zr;intro _
  repeat (first|apply zq|apply zb|apply zk)
  apply AWp.cond;apply zi<;>intro h3
  ·have h4:¬ (tgt x (x.Operands.getD k default)).Limit=4:=fun h4=>by
    have h3:fixN f x (x.Operands.getD k default)<0:=of_decide_eq_true h3
    have hn:=tgt_n h.all hk' h4
    unfold fixN at h3
    rw [if_pos h4] at h3
    omega
   have hn:cwOk f x e (k+1)=cwOk f x e k:=if_neg h4
   apply ze
   repeat (first|apply zq|apply zb|apply zk)
   apply zr;intro _
   refine round_end (k+1) hk' ?_ (by omega)
   rw [hn]
   refine zi ?_ (zi ⟨_,_,rfl,rfl,zg⟩ (zi zt zt))
   repeat' (first|exact rfl|exact zt|exact zw hk' hom|apply zi)
  have h4:(tgt x (x.Operands.getD k default)).Limit=4:=Classical.byContradiction fun h4=>by
   have h3:¬ fixN f x (x.Operands.getD k default)<0:=of_decide_eq_false h3
   unfold fixN at h3
   rw [if_neg h4] at h3
   omega
  have hn:cwOk f x e (k+1)=cwOk f x e k++[cwO f x e (x.Operands.getD k default)]:=if_pos h4
  have hc:=h.cl k hk'
  have htn:=tgt_n h.all hk' h4
  have hfe:fixN f x (x.Operands.getD k default)=100 * cls f (x.Operands.getD k default).Value+(tgt x (x.Operands.getD k default)).N:=by unfold fixN; rw [if_pos h4,hc]
  have hq:IntKind.i64.wrap ((fixN f x (x.Operands.getD k default)).tdiv 100)=cls f (x.Operands.getD k default).Value:=by
   rw [hc] at hcl
   rw [hfe,Int.tdiv_eq_ediv_of_nonneg (by omega),wrap_in (by omega) (by omega)]; omega
  have hr:(fixN f x (x.Operands.getD k default)).tmod 100=(tgt x (x.Operands.getD k default)).N:=by
   rw [hc] at hcl
   rw [hfe,Int.tmod_eq_emod_of_nonneg (by omega)]; omega
  refine AWp.skip ?_
  repeat (first|apply zq|apply zb|apply zk)
  apply zr;intro _
  repeat (first|apply zq|apply zb|apply zk)
  apply zr;intro _
  repeat (first|apply zq|apply zb|apply zk)
  apply zr
  repeat' (first|exact zt|apply zi|fail)
  all_goals first|exact fun h=>h|exact gT|exact gF|exact gN|exact gA|skip
  intro _
  repeat (first|apply zq|apply zb|apply zk)
  refine AWp.mono (Q:=fun e' t=>e'=.normal∧Sub ⟨[(3,.ptr f.cells),(7,.ptr x.cells),(8,.i64 e),(9,.sl 91 (cwOk f x e k).length),(11,.i64 k),(12,.ptr (x.Operands.getD k default).cells),(13,.i64 (fixN f x (x.Operands.getD k default))),(14,.i64 e),(15,.i64 (bif (x.Operands.getD k default).Kind==1&&!(x.Operands.getD k default).Late then e+1 else e+2))],[(91,rowC (cwOk f x e k))]⟩ t) ?_ ?_
  ·repeat (first|apply zq|apply zb|apply zk)
   apply AWp.cond;apply zi<;>intro h6
   ·have q6:((x.Operands.getD k default).Kind==1&&!(x.Operands.getD k default).Late)=true:=(bif_and _ _).symm.trans h6
    have hT:(bif (x.Operands.getD k default).Kind==1&&!(x.Operands.getD k default).Late then e+1 else e+2)=e+1:=by rw [q6]; rfl
    repeat (first|apply zq|apply zb|apply zk)
    apply zr;intro _
    refine zi rfl ?_
    rw [hT]
    refine zi ?_ (zi ⟨_,_,rfl,rfl,zg⟩ (zi zt zt))
    repeat' (first|exact rfl|exact zt|exact congrArg (fun z=>some (AV.i64 z)) w1|apply zi)
   ·have q6:((x.Operands.getD k default).Kind==1&&!(x.Operands.getD k default).Late)=false:=(bif_and _ _).symm.trans h6
    have hT:(bif (x.Operands.getD k default).Kind==1&&!(x.Operands.getD k default).Late then e+1 else e+2)=e+2:=by rw [q6]; rfl
    refine AWp.skip ?_
    refine zi rfl ?_
    rw [hT]
    refine zi ?_ (zi ⟨_,_,rfl,rfl,zg⟩ (zi zt zt))
    repeat' (first|exact rfl|exact zt|exact congrArg (fun z=>some (AV.i64 z)) w2|apply zi)
  rintro _ _ ⟨rfl,hs1⟩
  refine AWp.weaken hs1 ?_
  repeat (first|apply zq|apply zb|apply zk)
  apply zr
  repeat' (first|exact zt|apply zi|fail)
  all_goals first|exact fun h=>h|exact gT|exact gF|exact gN|exact gA|skip
  intro _
  repeat (first|apply zq|apply zb|apply zk)
  refine AWp.mono (Q:=fun e' t=>e'=.normal∧Sub ⟨[(3,.ptr f.cells),(7,.ptr x.cells),(8,.i64 e),(9,.sl 91 (cwOk f x e k).length),(11,.i64 k),(12,.ptr (x.Operands.getD k default).cells),(13,.i64 (fixN f x (x.Operands.getD k default))),(14,.i64 (bif (x.Operands.getD k default).Kind==2&&(x.Operands.getD k default).Late then e+1 else e)),(15,.i64 (bif (x.Operands.getD k default).Kind==1&&!(x.Operands.getD k default).Late then e+1 else e+2))],[(91,rowC (cwOk f x e k))]⟩ t) ?_ ?_
  ·repeat (first|apply zq|apply zb|apply zk)
   apply AWp.cond;apply zi<;>intro h7
   ·have q7:((x.Operands.getD k default).Kind==2&&(x.Operands.getD k default).Late)=true:=(bif_and _ _).symm.trans h7
    have hF:(bif (x.Operands.getD k default).Kind==2&&(x.Operands.getD k default).Late then e+1 else e)=e+1:=by rw [q7]; rfl
    repeat (first|apply zq|apply zb|apply zk)
    apply zr;intro _
    refine zi rfl ?_
    rw [hF]
    refine zi ?_ (zi ⟨_,_,rfl,rfl,zg⟩ (zi zt zt))
    repeat' (first|exact rfl|exact zt|exact congrArg (fun z=>some (AV.i64 z)) w1|apply zi)
   ·have q7:((x.Operands.getD k default).Kind==2&&(x.Operands.getD k default).Late)=false:=(bif_and _ _).symm.trans h7
    have hF:(bif (x.Operands.getD k default).Kind==2&&(x.Operands.getD k default).Late then e+1 else e)=e:=by rw [q7]; rfl
    refine AWp.skip ?_
    refine zi rfl ?_
    rw [hF]
    refine zi ?_ (zi ⟨_,_,rfl,rfl,zg⟩ (zi zt zt))
    repeat' (first|exact rfl|exact zt|apply zi)
  rintro _ _ ⟨rfl,hs2⟩
  refine AWp.weaken hs2 ?_
  repeat (first|apply zq|apply zb|apply zk)
  apply zr
  repeat' (first|exact zt|apply zi|fail)
  all_goals first|exact Nat.le_refl _|exact rfl|exact fun _ _=>rfl|(intro j hj; obtain rfl:j=0:=(by omega); exact rfl)|omega|skip
  intro _
  refine AWp.rename 106 91 rfl rfl ?_
  repeat (first|apply zq|apply zb|apply zk)
  apply zr;intro _
  refine round_end (k+1) hk' ?_ (by omega)
  rw [hn]
  refine zi ?_ (zi ⟨_,_,rfl,(sn_len (L:=cwOk f x e k) (p:=cwO f x e (x.Operands.getD k default))),fun j hj=>?_⟩ (zi zt zt))
  ·repeat' (first|exact rfl|exact zt|exact congrArg (fun n=>some (AV.sl 91 n)) (sn_len (L:=cwOk f x e k) (p:=cwO f x e (x.Operands.getD k default)))|exact zw hk' hom|apply zi)
  ·refine Eq.trans (snocC (L:=cwOk f x e k) (p:=cwO f x e (x.Operands.getD k default)) hj) ?_
   by_cases e2:j<(cwOk f x e k).length
   ·exact Eq.trans (if_pos e2) (if_pos e2).symm
   ·have e3:j - (cwOk f x e k).length=0:=by
     have hj:j<(cwOk f x e k++[cwO f x e (x.Operands.getD k default)]).length:=hj
     rw [List.length_append] at hj; simp at hj; omega
    refine Eq.trans (if_neg e2) (Eq.trans ?_ (if_neg e2).symm)
    show _=([[AV.i64 (IntKind.i64.wrap ((fixN f x (x.Operands.getD k default)).tdiv 100)),AV.i64 ((fixN f x (x.Operands.getD k default)).tmod 100),AV.i64 (bif (x.Operands.getD k default).Kind==2&&(x.Operands.getD k default).Late then e+1 else e),AV.i64 (bif (x.Operands.getD k default).Kind==1&&!(x.Operands.getD k default).Late then e+1 else e+2),AV.i64 (x.Operands.getD k default).Value]].getD (j - (cwOk f x e k).length) []:List AV)
    rw [e3,hq,hr]; rfl
 have hk3:¬ (k:Int)<x.Operands.length:=of_decide_eq_false h1
 obtain rfl:k=x.Operands.length:=by omega
 apply ze
 refine AWp.freeze 91 (fun i=>clA ((cwOk f x e x.Operands.length).getD i default)) rfl (fun i hi=>rfl) ?_
 repeat (first|apply zq|apply zb|apply zk)
 apply zr;intro _
 refine AWp.ret ⟨Or.inl rfl,rfl,?_⟩
 intro _
 rfl
theorem lexD_step {X Y:List Int} {i:Nat} (hx:i<X.length) (hy:i<Y.length):lexD (X.drop i) (Y.drop i)=if X.getD i 0 - Y.getD i 0=0 then lexD (X.drop (i+1)) (Y.drop (i+1)) else X.getD i 0 - Y.getD i 0:=by
 rw [List.drop_eq_getElem_cons hx,List.drop_eq_getElem_cons hy]
 simp only [lexD,List.getD_eq_getElem?_getD,List.getElem?_eq_getElem hx,List.getElem?_eq_getElem hy,Option.getD_some]
@[reducible] def c5R (p:C5):AV:=.ro 1 5 (fun j=>[.i64 ((c5L p).getD j 0)])
set_option maxHeartbeats 2000000 in
theorem c_claimAhead (x y:C5):ACallIs B.P 53 [.agg (clA x),.agg (clA y)] (.bool (ltC x y)):=by
 refine ACallIs.enter B _ _ Tryz.func53 rfl rfl Tryz.ntmps53 Tryz.results53 rfl fun _=>?_
 repeat (first|apply zq|apply zb|apply zk)
 apply zr;intro _
 refine AWp.freezeObj 2 rfl rfl ?_
 refine AWp.freezeObj 3 rfl rfl ?_
 repeat (first|apply zq|apply zb|apply zk)
 apply zr;intro _
 refine AWp.freeze 22 (fun j=>[.i64 ((c5L x).getD j 0)]) rfl (fun i hi=>by
  match i,hi with
  | 0,_=>rfl
  | 1,_=>rfl
  | 2,_=>rfl
  | 3,_=>rfl
  | 4,_=>rfl) ?_
 repeat (first|apply zq|apply zb|apply zk)
 apply zr;intro _
 refine AWp.freeze 37 (fun j=>[.i64 ((c5L y).getD j 0)]) rfl (fun i hi=>by
  match i,hi with
  | 0,_=>rfl
  | 1,_=>rfl
  | 2,_=>rfl
  | 3,_=>rfl
  | 4,_=>rfl) ?_
 repeat (first|apply zq|apply zb|apply zk)
 apply zr;intro _
 repeat (first|apply zq|apply zb|apply zk)
 refine AWp.loop (fun i:Nat=>⟨[(5,c5R x),(6,c5R y),(7,.i64 i)],[]⟩) (fun i=>i≤5∧lexD (c5L x) (c5L y)=lexD ((c5L x).drop i) ((c5L y).drop i)) (fun i=>5 - i) 0 ⟨Nat.zero_le _,rfl⟩ ?_ ?_
 ·repeat' (first|exact rfl|exact zt|apply zi)
 rintro i ⟨hi,hl⟩
 repeat (first|apply zq|apply zb|apply zk)
 apply zr;intro _
 repeat (first|apply zq|apply zb|apply zk)
 apply AWp.cond;apply zi<;>intro h1
 ·have hi':i<5:=zd h1
  have hst:=lexD_step (X:=c5L x) (Y:=c5L y) (i:=i) hi' hi'
  rw [hst] at hl
  repeat (first|apply zq|apply zb|apply zk)
  refine AWp.draw mixed (by kernel_rfl) ?_
  repeat' (first|exact zt|apply zi|fail)
  all_goals first|exact fun _=>nn (hi')|skip
  intro _
  repeat (first|apply zq|apply zb|apply zk)
  apply AWp.cond;apply zi<;>intro h2
  ·have h2:(c5L x).getD i 0≠(c5L y).getD i 0:=by
    have h:((c5L x).getD i 0 != (c5L y).getD i 0)=true:=h2
    simpa using h
   rw [if_neg (by omega)] at hl
   repeat (first|apply zq|apply zb|apply zk)
   refine AWp.draw mixed (by kernel_rfl) ?_
   repeat' (first|exact zt|apply zi|fail)
   all_goals first|exact fun _=>nn (hi')|skip
   intro _
   refine AWp.ret ⟨Or.inl rfl,rfl,?_⟩
   intro _
   refine tupB (show decide ((c5L x).getD i 0<(c5L y).getD i 0)=ltC x y from ?_)
   unfold ltC
   rw [hl]
   exact decide_eq_decide.2 (by omega)
  have h2:(c5L x).getD i 0=(c5L y).getD i 0:=by
   have h:((c5L x).getD i 0 != (c5L y).getD i 0)=false:=h2
   simpa using h
  rw [if_pos (by omega)] at hl
  refine AWp.skip ?_
  repeat (first|apply zq|apply zb|apply zk)
  apply zr;intro _
  refine Exists.intro (i+1) (zi ⟨hi',hl⟩ (zi ?_ (by omega)))
  repeat' (first|exact rfl|exact zt|exact zw hi' (by decide)|apply zi)
 have hi3:¬ (i:Int)<5:=of_decide_eq_false h1
 obtain rfl:i=5:=by omega
 apply ze
 repeat (first|apply zq|apply zb|apply zk)
 apply zr;intro _
 refine AWp.ret ⟨Or.inl rfl,rfl,?_⟩
 intro _
 refine tupB (show false=ltC x y from ?_)
 unfold ltC
 rw [hl]; rfl
def atF (c:C5):List C5→Nat
 | []=>0
 | p::r=>if ltC p c=true then atF c r+1 else 0
theorem atF_eq {c:C5}:∀ {L:List C5} {a:Nat},a≤L.length→(∀ j,j<a→ltC (L.getD j default) c=true)→(a<L.length→ltC (L.getD a default) c=false)→atF c L=a
 | [],a,h,_,_=>by simp at h; subst h; rfl
 | p::r,0,h,_,h2=>by
  have:=h2 (by simp)
  have:ltC p c=false:=this
  unfold atF
  rw [this]; rfl
 | p::r,a+1,h,h1,h2=>by
  have q:ltC p c=true:=h1 0 (by omega)
  unfold atF
  rw [if_pos q,atF_eq (L:=r) (a:=a) (by simpa using h) (fun j hj=>h1 (j+1) (by omega)) (fun hl=>h2 (by simpa using hl))]
def insU (out:List C5) (c:C5):List C5:=if atF c out<out.length∧out.getD (atF c out) default=c then out else out.take (atF c out)++c::out.drop (atF c out)
def insA (L:List C5):List C5:=L.foldl insU []
theorem insA_snoc {L:List C5} {c:C5}:insA (L++[c])=insU (insA L) c:=by unfold insA; rw [List.foldl_append]; rfl
theorem insU_len {out:List C5} {c:C5}:(insU out c).length≤out.length+1:=by
 unfold insU
 split
 ·omega
 ·rw [List.length_append,List.length_cons,← Nat.add_assoc,← List.length_append,List.take_append_drop]; omega
theorem insA_len (L:List C5):(insA L).length≤L.length:=by
 have:∀ (L acc:List C5),(L.foldl insU acc).length≤acc.length+L.length:=fun L=>by
  induction L with
  | nil=>intro acc; simp
  | cons a r ih =>
   intro acc
   have h1:=ih (insU acc a)
   have h2:=insU_len (out:=acc) (c:=a)
   simp only [List.foldl_cons,List.length_cons]
   omega
 have h:=this L []
 rw [List.length_nil,Nat.zero_add] at h
 exact h
def Inc (L:List C5):Prop:=L.Pairwise fun x y=>ltC x y=true
theorem insU_cons {p:C5} {r:List C5} {c:C5}:insU (p::r) c=if ltC p c=true then p::insU r c else if p=c then p::r else c::p::r:=by
 by_cases h:ltC p c=true
 ·rw [if_pos h]
  have e:atF c (p::r)=atF c r+1:=if_pos h
  unfold insU
  rw [e]
  simp only [List.length_cons,List.getD_cons_succ,List.take_succ_cons,List.drop_succ_cons,Nat.add_lt_add_iff_right]
  split<;>simp
 ·rw [if_neg h]
  have e:atF c (p::r)=0:=if_neg h
  unfold insU
  rw [e]
  by_cases h2:p=c
  ·rw [if_pos h2,if_pos ⟨by simp,h2⟩]
  ·rw [if_neg h2,if_neg (fun z=>h2 z.2)]; rfl
theorem insU_mem {c q:C5}:∀ {out:List C5},q∈insU out c↔q∈out∨q=c
 | []=>by simp [insU,atF]
 | p :: r=>by
  rw [insU_cons]
  split
  ·simp only [List.mem_cons,insU_mem (out:=r)]
   exact or_assoc.symm
  ·split
   ·rename_i h; subst h
    simp only [List.mem_cons]
    constructor
    ·exact .inl
    ·rintro (h|h)
     ·exact h
     ·exact .inl h
   ·simp only [List.mem_cons]
    constructor
    ·rintro (h|h)
     ·exact .inr h
     ·exact .inl h
    ·rintro (h|h)
     ·exact .inr h
     ·exact .inl h
theorem insU_inc {c:C5}:∀ {out:List C5},Inc out→Inc (insU out c)
 | [],_=>by simp [insU,atF,Inc]
 | p :: r,h=>by
  rw [insU_cons]
  unfold Inc at *
  rw [List.pairwise_cons] at h
  split
  ·rename_i hp
   rw [List.pairwise_cons]
   refine ⟨fun q hq=>?_,insU_inc h.2⟩
   rcases insU_mem.1 hq with hq|hq
   ·exact h.1 q hq
   ·rw [hq]; exact hp
  ·rename_i hp
   have hp:ltC p c=false:=by simpa using hp
   split
   ·rw [List.pairwise_cons]; exact h
   ·rename_i hne
    have hcp:ltC c p=true:=by
     cases hh:ltC c p with
     | true=>rfl
     | false=>exact absurd (ltC_tot hp hh) hne
    rw [List.pairwise_cons]
    refine ⟨fun q hq=>?_,List.pairwise_cons.2 h⟩
    rcases List.mem_cons.1 hq with hq|hq
    ·rw [hq]; exact hcp
    ·exact ltC_trans hcp (h.1 q hq)
theorem insA_ok (L:List C5):Inc (insA L)∧∀ q,q∈insA L↔q∈L:=by
 have:∀ (L acc:List C5),Inc acc→Inc (L.foldl insU acc)∧∀ q,q∈L.foldl insU acc↔q∈acc∨q∈L:=fun L=>by
  induction L with
  | nil=>intro acc h; simp [h]
  | cons a r ih =>
   intro acc h
   obtain ⟨h1,h2⟩:=ih (insU acc a) (insU_inc h)
   refine ⟨h1,fun q=>?_⟩
   rw [List.foldl_cons,h2 q,insU_mem,List.mem_cons,or_assoc]
 have h:=this L [] List.Pairwise.nil
 exact ⟨h.1,fun q=>by rw [show q∈insA L↔_ from h.2 q]; simp⟩
theorem inc_eq:∀ {X Y:List C5},Inc X→Inc Y→(∀ q,q∈X↔q∈Y)→X=Y
 | [],[],_,_,_=>rfl
 | [],y::s,_,_,h=>by have:=(h y).2 List.mem_cons_self; cases this
 | x::r,[],_,_,h=>by have:=(h x).1 List.mem_cons_self; cases this
 | x :: r,y::s,hx,hy,h=>by
  unfold Inc at hx hy
  rw [List.pairwise_cons] at hx hy
  have e:x=y:=by
   rcases List.mem_cons.1 ((h x).1 List.mem_cons_self) with e|e
   ·exact e
   ·rcases List.mem_cons.1 ((h y).2 List.mem_cons_self) with e'|e'
    ·exact e'.symm
    ·have h1:=hy.1 x e
     have h2:=hx.1 y e'
     rw [ltC_asym h1] at h2; cases h2
  subst e
  rw [inc_eq (X:=r) (Y:=s) hx.2 hy.2 fun q=>?_]
  constructor
  ·intro hq
   rcases List.mem_cons.1 ((h q).1 (List.mem_cons_of_mem _ hq)) with e|e
   ·subst e; have:=hx.1 q hq; rw [ltC_irr] at this; cases this
   ·exact e
  ·intro hq
   rcases List.mem_cons.1 ((h q).2 (List.mem_cons_of_mem _ hq)) with e|e
   ·subst e; have:=hy.1 q hq; rw [ltC_irr] at this; cases this
   ·exact e
theorem ddK_ok {S:List C5} (hS:S.Pairwise fun x y=>ltC y x=false):∀ i,i≤S.length→Inc (ddK S i)∧(∀ q,q∈ddK S i↔q∈S.take i)
 | 0,_=>⟨List.Pairwise.nil,fun q=>by simp [ddK]⟩
 | i + 1,hi=>by
  obtain ⟨h1,h2⟩:=ddK_ok hS i (by omega)
  have et:S.take (i+1)=S.take i++[S.getD i default]:=by
   rw [List.take_add_one,List.getD_eq_getElem?_getD,List.getElem?_eq_getElem (by omega)]; rfl
  have hd:ddK S (i+1)=stepD (ddK S i) (S.getD i default):=rfl
  rw [hd,et]
  unfold stepD
  split
  ·rename_i hl
   refine ⟨h1,fun q=>?_⟩
   have hm:S.getD i default∈ddK S i:=List.mem_of_getLast? hl
   rw [List.mem_append,List.mem_singleton,← h2 q]
   constructor
   ·exact .inl
   ·rintro (h|h)
    ·exact h
    ·rw [h]; exact hm
  ·rename_i hl
   refine ⟨?_,fun q=>by rw [List.mem_append,List.mem_append,h2 q]⟩
   unfold Inc at *
   rw [List.pairwise_append]
   refine ⟨h1,List.pairwise_singleton _ _,fun a ha b hb=>?_⟩
   rw [List.mem_singleton] at hb; subst hb
   have ha':=(h2 a).1 ha
   have hle:ltC (S.getD i default) a=false:=by
    rw [List.pairwise_iff_getElem] at hS
    obtain ⟨j,hj,rfl⟩:=List.mem_iff_getElem.1 ha'
    have hj':j<i:=by rw [List.length_take] at hj; omega
    rw [List.getElem_take,List.getD_eq_getElem?_getD,List.getElem?_eq_getElem (by omega)]
    exact hS j i (by omega) (by omega) hj'
   cases hlt:ltC a (S.getD i default) with
   | true=>rfl
   | false =>
    have e:=ltC_tot hlt hle
    subst e
    exfalso
    rcases List.getLast?_eq_some_iff.1 (show (ddK S i).getLast? = some ((ddK S i).getLast (List.ne_nil_of_mem ha)) from List.getLast?_eq_some_getLast _) with ⟨K,hK⟩
    generalize (ddK S i).getLast (List.ne_nil_of_mem ha)=z at hK
    rw [hK] at ha h1
    rw [List.pairwise_append] at h1
    rcases List.mem_append.1 ha with h|h
    ·have hz:z∈ddK S i:=by rw [hK]; simp
     have hz':=(h2 z).1 hz
     have hle2:ltC (S.getD i default) z=false:=by
      rw [List.pairwise_iff_getElem] at hS
      obtain ⟨j,hj,rfl⟩:=List.mem_iff_getElem.1 hz'
      have hj':j<i:=by rw [List.length_take] at hj; omega
      rw [List.getElem_take,List.getD_eq_getElem?_getD,List.getElem?_eq_getElem (by omega)]
      exact hS j i (by omega) (by omega) hj'
     have:=h1.2.2 _ h z (List.mem_singleton.2 rfl)
     rw [this] at hle2; cases hle2
    ·rw [List.mem_singleton] at h
     exact hl (by rw [hK,h]; simp)
theorem dd_ins {L S:List C5} (hp:S.Perm L) (hS:S.Pairwise fun x y=>ltC y x=false):ddK S S.length=insA L:=by
 have h1:=ddK_ok hS S.length (Nat.le_refl _)
 have h2:=insA_ok L
 exact inc_eq h1.1 h2.1 fun q=>by rw [h1.2 q,List.take_length,h2.2 q,hp.mem_iff]
def clI (f:Fun) (b:Nat):Nat→List C5
 | 0=>[]
 | i+1=>clI f b i++cwI f (xAt f b i) (erl f b i)
def clB (f:Fun):Nat→List C5
 | 0=>[]
 | b+1=>clB f b++clI f b (f.Blocks.getD b default).Instrs.length
theorem clI_len {f:Fun} (hz:SizOk f) {b:Nat} (hb:b<f.Blocks.length):∀ i,i≤(f.Blocks.getD b default).Instrs.length→(clI f b i).length≤26 * i
 | 0,_=>Nat.le_refl _
 | i+1,hi=>by
  have h1:=clI_len hz hb i (by omega)
  have h2:=cwOk_len (f:=f) (x:=xAt f b i) (e:=erl f b i) (xAt f b i).Operands.length
  have h3:(xAt f b i).Operands.length≤6:=hz.ops b i hb (by omega)
  have h4:(xAt f b i).Spoils.length≤20:=hz.spo b i hb (by omega)
  show (clI f b i++cwOk f (xAt f b i) (erl f b i) (xAt f b i).Operands.length).length≤_
  rw [List.length_append]
  omega
theorem clB_len {f:Fun} (hz:SizOk f):∀ b,b≤f.Blocks.length→(clB f b).length≤1040 * b
 | 0,_=>Nat.le_refl _
 | b+1,hb=>by
  have h1:=clB_len hz b (by omega)
  have h2:=clI_len hz (b:=b) (by omega) _ (Nat.le_refl _)
  have h3:=hz.instrs b (by omega)
  show (clB f b++_).length≤_
  rw [List.length_append]
  omega
theorem cwI_ok {f:Fun} {x:Ins} (h:ClmOk f x) (hv:f.Values.length≤160) {e:Int} (he:0≤e∧e≤1000000) {p:C5} (hp:p∈cwI f x e):okC p:=by
 have hS:∀ i,i≤x.Spoils.length→∀ p,p∈cwSk x e i→okC p:=fun i=>by
  induction i with
  | zero=>intro _ p hp; cases hp
  | succ i ih =>
   intro hi p hp
   rcases List.mem_append.1 hp with hp|hp
   ·exact ih (by omega) p hp
   ·rw [List.mem_singleton] at hp; subst hp
    have:=h.sp i (by omega)
    unfold okC cwS sml
    dsimp only
    omega
 have hO:∀ k,k≤x.Operands.length→∀ p,p∈cwOk f x e k→okC p:=fun k=>by
  induction k with
  | zero=>exact fun _ p hp=>hS _ (Nat.le_refl _) p hp
  | succ k ih =>
   intro hk p hp
   unfold cwOk at hp
   split at hp
   ·rename_i h4
    rcases List.mem_append.1 hp with hp|hp
    ·exact ih (by omega) p hp
    ·rw [List.mem_singleton] at hp; subst hp
     have h1:=tgt_n h.all (show k<x.Operands.length by omega) h4
     have h2:=cls_ok h.v (tgt_val h.all (show k<x.Operands.length by omega))
     rw [h.cl k (by omega)] at h2
     have h3:=idx_ok (h.all.ok.val k (by omega))
     unfold okC cwO sml
     dsimp only
     refine ⟨by omega,by omega,?_,?_,by omega⟩
     ·cases (x.Operands.getD k default).Kind==2&&(x.Operands.getD k default).Late<;>simp only [cond_true,cond_false]<;>omega
     ·cases (x.Operands.getD k default).Kind==1&&!(x.Operands.getD k default).Late<;>simp only [cond_true,cond_false]<;>omega
   ·exact ih (by omega) p hp
 exact hO _ (Nat.le_refl _) p hp
theorem clB_ok {f:Fun} (hz:SizOk f) (h:∀ b a,b<f.Blocks.length→a<(f.Blocks.getD b default).Instrs.length→ClmOk f (xAt f b a)):∀ b,b≤f.Blocks.length→∀ p,p∈clB f b→okC p
 | 0,_=>fun p hp=>by cases hp
 | b + 1,hb=>fun p hp=>by
  rcases List.mem_append.1 hp with hp|hp
  ·exact clB_ok hz h b (by omega) p hp
  ·have:∀ i,i≤(f.Blocks.getD b default).Instrs.length→∀ p,p∈clI f b i→okC p:=fun i=>by
    induction i with
    | zero=>intro _ p hp; cases hp
    | succ i ih =>
     intro hi p hp
     rcases List.mem_append.1 hp with hp|hp
     ·exact ih (by omega) p hp
     ·exact cwI_ok (h b i (by omega) (by omega)) hz.values (erl_bd hz (by omega) (by omega)) hp
   exact this _ (Nat.le_refl _) p hp
theorem slC_eq {i:Nat} {K L:List C5} (h:L=K):some (AV.sl ⟨i,[]⟩ K.length)=some (AV.sl ⟨i,[]⟩ L.length):=by rw [h]
theorem rowC_sub {e:List (Nat×HO)} {t:Nat} {K L:List C5} (hl:Abs.look e t=some (rowC K)) (h:L=K):subHO (Abs.look e t) (rowC L):=by subst h; exact ⟨_,_,hl,rfl,fun i hi=>rfl⟩
theorem snocRc {K L:List C5} {p:C5} {v:List AV} {i:Nat} (hL:L=K++[p]) (hv:v=clA p) (hi:i<L.length):clA (L.getD i default)=if i<K.length then clA (K.getD i default) else ([v].getD (i - K.length) []:List AV):=by
 subst hL
 rw [snocC hi]
 by_cases e:i<K.length
 ·rw [if_pos e,if_pos e]
 ·have e3:i - K.length=0:=by rw [List.length_append] at hi; simp at hi; omega
  rw [if_neg e,if_neg e,e3,hv]; rfl
theorem snoc_len {K L:List C5} {p:C5} (hL:L=K++[p]):K.length+1=L.length:=by subst hL; simp
theorem take_snoc {o:List C5} {j:Nat} (h:j<o.length):o.take (j+1)=o.take j++[o.getD j default]:=by
 rw [List.take_add_one,List.getD_eq_getElem?_getD,List.getElem?_eq_getElem h]; rfl
def nxC (o:List C5) (at_:Nat) (c:C5) (j:Nat):List C5:=o.take at_++[c]++(o.drop at_).take (j - at_)
theorem nxC_snoc {o:List C5} {q j:Nat} {c:C5} (h:j<o.length) (hq:q≤j):nxC o q c (j+1)=nxC o q c j++[o.getD j default]:=by
 unfold nxC
 rw [show j+1 - q=(j - q)+1 by omega,List.take_add_one,List.getElem?_drop,show q+(j - q)=j by omega,List.getD_eq_getElem?_getD,List.getElem?_eq_getElem h,List.append_assoc,List.append_assoc,List.append_assoc]; rfl
theorem nxC_end {o:List C5} {q:Nat} {c:C5} (hq:q≤o.length):nxC o q c o.length=o.take q++c::o.drop q:=by
 unfold nxC
 rw [List.take_of_length_le (show (o.drop q).length≤o.length - q by rw [List.length_drop]; omega),List.append_assoc]; rfl
theorem nxC_len {o:List C5} {q j:Nat} {c:C5}:(nxC o q c j).length≤o.length+1:=by
 unfold nxC
 simp only [List.length_append,List.length_take,List.length_drop,List.length_singleton]
 omega
set_option maxRecDepth 4000 in
set_option maxHeartbeats 8000000 in
theorem c_ClaimsOf (f:Fun) (m:Mch) (hok:Fun.ok f) (hz:SizOk f) (h0:flwF f m=0) (h:∀ b a,b<f.Blocks.length→a<(f.Blocks.getD b default).Instrs.length→ClmOk f (xAt f b a)):ACallIs B.P 27 [f.av,m.av] (.tup [claims (insA (clB f f.Blocks.length)),.i64 0]):=by
 have hc:=c_FuncFault f m hok
 rw [h0] at hc
 have hbl:=hz.blocks
 have hbm:f.Blocks.length≤maxLen:=by unfold maxLen; omega
 refine ACallIs.enter B _ _ Tryz.func27 rfl rfl Tryz.ntmps27 Tryz.results27 rfl fun _=>?_
 repeat (first|apply zq|apply zb|apply zk)
 apply zr;intro _
 refine AWp.freezeObj 2 rfl rfl ?_
 refine AWp.freezeObj 3 rfl rfl ?_
 repeat (first|apply zq|apply zb|apply zk)
 apply zr
 refine CallX.pure hc rfl rfl rfl ?_
 intro _
 repeat (first|apply zq|apply zb|apply zk)
 apply zr;intro _
 repeat (first|apply zq|apply zb|apply zk)
 apply AWp.cond;apply zi<;>intro h1
 ·cases h1
 refine AWp.skip ?_
 repeat (first|apply zq|apply zb|apply zk)
 apply zr;intro _
 refine AWp.adopt 7 95 70 5 rfl rfl rfl ?_
 repeat (first|apply zq|apply zb|apply zk)
 apply zr;intro _
 repeat (first|apply zq|apply zb|apply zk)
 refine AWp.loop (fun b:Nat=>⟨[(2,.ptr f.cells),(7,.sl 95 (insA (clB f b)).length),(8,.i64 b)],[(95,rowC (insA (clB f b)))]⟩) (fun b=>b≤f.Blocks.length) (fun b=>f.Blocks.length - b) 0 (Nat.zero_le _) ?_ ?_
 ·refine zi ?_ (zi ⟨_,_,rfl,rfl,fun i hi=>absurd hi (Nat.not_lt_zero _)⟩ (zi zt zt))
  repeat' (first|exact rfl|exact zt|apply zi)
 intro b hb0
 repeat (first|apply zq|apply zb|apply zk)
 apply zr;intro _
 repeat (first|apply zq|apply zb|apply zk)
 apply AWp.cond;apply zi<;>intro h1
 ·have hb:b<f.Blocks.length:=zd h1
  have hil:=hz.instrs b hb
  have him:(f.Blocks.getD b default).Instrs.length≤maxLen:=by unfold maxLen; omega
  have hBl:=clB_len hz b (by omega)
  repeat (first|apply zq|apply zb|apply zk)
  apply zr;intro _
  repeat (first|apply zq|apply zb|apply zk)
  refine AWp.loop (fun a:Nat=>⟨[(2,.ptr f.cells),(7,.sl 95 (insA (clB f b++clI f b a)).length),(8,.i64 b),(9,.i64 a)],[(95,rowC (insA (clB f b++clI f b a)))]⟩) (fun a=>a≤(f.Blocks.getD b default).Instrs.length) (fun a=>(f.Blocks.getD b default).Instrs.length - a) 0 (Nat.zero_le _) ?_ ?_
  ·refine zi ?_ (zi (rowC_sub rfl (congrArg insA (List.append_nil _))) (zi zt zt))
   repeat' (first|exact rfl|exact zt|exact slC_eq (congrArg insA (List.append_nil _))|apply zi)
  intro a ha0
  repeat (first|apply zq|apply zb|apply zk)
  apply zr
  repeat' (first|exact zt|apply zi|fail)
  all_goals first|exact fun _=>nn hb|skip
  intro _
  repeat (first|apply zq|apply zb|apply zk)
  apply AWp.cond;apply zi<;>intro h2
  ·have ha:a<(f.Blocks.getD b default).Instrs.length:=zd h2
   have hIl:=clI_len hz hb a (by omega)
   have hcl:=c_claimsOf f hz b a hb ha (h b a hb ha)
   have hll:=cwOk_len (f:=f) (x:=xAt f b a) (e:=erl f b a) (xAt f b a).Operands.length
   have hl1:(xAt f b a).Operands.length≤6:=hz.ops b a hb ha
   have hl2:(xAt f b a).Spoils.length≤20:=hz.spo b a hb ha
   repeat (first|apply zq|apply zb|apply zk)
   apply zr
   refine CallX.pure hcl rfl rfl rfl ?_
   intro _
   repeat (first|apply zq|apply zb|apply zk)
   apply zr;intro _
   obtain ⟨l,hl⟩:∃ l,l=cwI f (xAt f b a) (erl f b a):=⟨_,rfl⟩
   have hI:clI f b (a+1)=clI f b a++l:=by rw [hl]; rfl
   have hlm:l.length≤maxLen:=by rw [hl]; unfold cwI maxLen; omega
   have hln:l.length≤26:=by rw [hl]; unfold cwI; omega
   repeat (first|apply zq|apply zb|apply zk)
   refine AWp.loop (fun k:Nat=>⟨[(2,.ptr f.cells),(7,.sl 95 (insA (clB f b++clI f b a++l.take k)).length),(8,.i64 b),(9,.i64 a),(10,claims l),(11,.i64 k)],[(95,rowC (insA (clB f b++clI f b a++l.take k)))]⟩) (fun k=>k≤l.length) (fun k=>l.length - k) 0 (Nat.zero_le _) ?_ ?_
   ·rw [hl]
    refine zi ?_ (zi (rowC_sub rfl (congrArg insA (List.append_nil _))) (zi zt zt))
    repeat' (first|exact rfl|exact zt|exact slC_eq (congrArg insA (List.append_nil _))|apply zi)
   intro k hk0
   repeat (first|apply zq|apply zb|apply zk)
   apply zr;intro _
   repeat (first|apply zq|apply zb|apply zk)
   apply AWp.cond;apply zi<;>intro h3
   ·have hk:k<l.length:=zd h3
    obtain ⟨o,ho⟩:∃ o,o=insA (clB f b++clI f b a++l.take k):=⟨_,rfl⟩
    have hn:insA (clB f b++clI f b a++l.take (k+1))=insU o (l.getD k default):=by rw [take_snoc hk,← List.append_assoc,insA_snoc,ho]
    have hol:o.length≤20000:=by
     have:=insA_len (clB f b++clI f b a++l.take k)
     rw [← ho] at this
     simp only [List.length_append,List.length_take] at this
     omega
    have hom:o.length≤maxLen:=by unfold maxLen; omega
    rw [← ho]
    repeat (first|apply zq|apply zb|apply zk)
    apply zr;intro _
    repeat (first|apply zq|apply zb|apply zk)
    refine AWp.loop (fun q:Nat=>⟨[(2,.ptr f.cells),(7,.sl 95 (o).length),(8,.i64 b),(9,.i64 a),(10,claims l),(11,.i64 k),(12,.i64 q)],[(95,rowC (o))]⟩) (fun q=>q≤o.length∧∀ j,j<q→ltC (o.getD j default) (l.getD k default)=true) (fun q=>o.length - q) 0 ⟨Nat.zero_le _,fun j hj=>absurd hj (Nat.not_lt_zero _)⟩ ?_ ?_
    ·refine zi ?_ (zi ⟨_,_,rfl,rfl,zg⟩ (zi zt zt))
     repeat' (first|exact rfl|exact zt|apply zi)
    rintro q ⟨hq0,hq1⟩
    have gq:(decide ((q:Int)<(o.length:Int))==true)=true→(q:Int)<(o.length:Int):=fun hh=>by simpa using hh
    repeat (first|apply zq|apply zb|apply zk)
    refine AWp.draw mixed (by kernel_rfl) ?_
    repeat' (first|exact zt|apply zi|refine CallK.intro (fun _=>c_claimAhead (o.getD q default) (l.getD k default)) ?_|fail)
    all_goals first|exact fun hh=>hh|exact fun hh=>zi (Int.natCast_nonneg _) (gq hh)|exact fun hh=>Int.ofNat_lt.1 (gq hh)|exact fun _=>nn hk|exact gT|exact gF|exact gN|exact gA|(intro hh; simpa using hh)|skip
    intro _
    repeat (first|apply zq|apply zb|apply zk)
    apply AWp.cond;apply zi<;>intro h4
    ·have h4:(bif decide ((q:Int)<(o.length:Int)) then ltC (o.getD q default) (l.getD k default) else false)=true:=h4
     rw [bif_and,Bool.and_eq_true,decide_eq_true_eq] at h4
     have hqo:q<o.length:=Int.ofNat_lt.1 h4.1
     repeat (first|apply zq|apply zb|apply zk)
     apply zr;intro _
     refine Exists.intro (q+1) (zi ⟨hqo,fun j hj=>?_⟩ (zi ?_ (by omega)))
     ·by_cases e:j=q
      ·subst e; exact h4.2
      ·exact hq1 j (by omega)
     ·refine zi ?_ (zi ⟨_,_,rfl,rfl,zg⟩ (zi zt zt))
      repeat' (first|exact rfl|exact zt|exact zw hqo hom|apply zi)
    have h4:(bif decide ((q:Int)<(o.length:Int)) then ltC (o.getD q default) (l.getD k default) else false)=false:=h4
    rw [bif_and] at h4
    have hat:atF (l.getD k default) o=q:=atF_eq hq0 hq1 fun hqo=>by
     rw [decide_eq_true (Int.ofNat_lt.2 hqo),Bool.true_and] at h4; exact h4
    apply ze
    repeat (first|apply zq|apply zb|apply zk)
    refine AWp.draw mixed (by kernel_rfl) ?_
    repeat' (first|exact zt|apply zi|fail)
    all_goals first|exact fun hh=>hh|exact fun hh=>zi (Int.natCast_nonneg _) (gq hh)|exact fun hh=>Int.ofNat_lt.1 (gq hh)|exact fun _=>nn hk|exact gT|exact gF|exact gN|exact gA|(intro hh; simpa using hh)|skip
    intro _
    have hb5:=c5_eqb (p:=o.getD q default) (q:=l.getD k default)
    repeat (first|apply zq|apply zb|apply zk)
    apply AWp.cond;apply zi<;>intro h5
    ·have h5:(bif decide ((q:Int)<(o.length:Int)) then decide (o.getD q default=l.getD k default) else false)=true:=by rw [← hb5]; exact h5
     rw [bif_and,Bool.and_eq_true,decide_eq_true_eq,decide_eq_true_eq] at h5
     have hu:insU o (l.getD k default)=o:=by
      unfold insU
      rw [hat]
      exact if_pos ⟨Int.ofNat_lt.1 h5.1,h5.2⟩
     apply ze
     repeat (first|apply zq|apply zb|apply zk)
     apply zr;intro _
     refine round_end (k+1) hk ?_ (by omega)
     rw [hn,hu]
     refine zi ?_ (zi ⟨_,_,rfl,rfl,zg⟩ (zi zt zt))
     repeat' (first|exact rfl|exact zt|exact zw hk hlm|apply zi)
    have h5:(bif decide ((q:Int)<(o.length:Int)) then decide (o.getD q default=l.getD k default) else false)=false:=by rw [← hb5]; exact h5
    rw [bif_and] at h5
    have hu:insU o (l.getD k default)=o.take q++l.getD k default::o.drop q:=by
     unfold insU
     rw [hat]
     refine if_neg fun z=>?_
     rw [decide_eq_true (Int.ofNat_lt.2 z.1),decide_eq_true z.2] at h5
     cases h5
    refine AWp.skip ?_
    repeat (first|apply zq|apply zb|apply zk)
    apply zr;intro _
    refine AWp.adopt 13 96 70 5 rfl rfl rfl ?_
    repeat (first|apply zq|apply zb|apply zk)
    apply zr;intro _
    repeat (first|apply zq|apply zb|apply zk)
    refine AWp.loop (fun j:Nat=>⟨[(2,.ptr f.cells),(7,.sl 95 o.length),(8,.i64 b),(9,.i64 a),(10,claims l),(11,.i64 k),(12,.i64 q),(13,.sl 96 (o.take j).length),(14,.i64 j)],[(95,rowC o),(96,rowC (o.take j))]⟩) (fun j=>j≤q) (fun j=>q - j) 0 (Nat.zero_le _) ?_ ?_
    ·refine zi ?_ (zi ⟨_,_,rfl,rfl,zg⟩ (zi zt (zi ⟨_,_,rfl,rfl,fun i hi=>absurd hi (Nat.not_lt_zero _)⟩ (zi zt zt))))
     repeat' (first|exact rfl|exact zt|apply zi)
    intro j hj0
    repeat (first|apply zq|apply zb|apply zk)
    apply zr;intro _
    repeat (first|apply zq|apply zb|apply zk)
    apply AWp.cond;apply zi<;>intro h6
    ·have hj:j<q:=zd h6
     have htl:(o.take j).length≤o.length:=by rw [List.length_take]; omega
     have hL:=take_snoc (o:=o) (j:=j) (by omega)
     repeat (first|apply zq|apply zb|apply zk)
     apply zr
     repeat' (first|exact zt|apply zi|fail)
     all_goals first|(intro _; exact nn ((by omega)))|(intro _; show j<o.length; omega)|exact Nat.le_refl _|exact rfl|exact fun _ _=>rfl|(intro i hi; obtain rfl:i=0:=(by omega); exact rfl)|(show j<o.length; omega)|omega|skip
     intro _
     refine AWp.rename 93 96 rfl rfl ?_
     repeat (first|apply zq|apply zb|apply zk)
     apply zr;intro _
     refine round_end (j+1) hj ?_ (by omega)
     refine zi ?_ (zi ⟨_,_,rfl,rfl,zg⟩ (zi zt (zi ⟨_,_,rfl,snoc_len hL,fun i hi=>snocRc hL rfl hi⟩ (zi zt zt))))
     repeat' (first|exact rfl|exact zt|exact congrArg (fun n=>some (AV.sl 96 n)) (snoc_len hL)|exact zw hj (show q≤maxLen by omega)|apply zi)
    have hj3:¬ (j:Int)<q:=of_decide_eq_false h6
    obtain rfl:j=q:=by omega
    have htl:(o.take j).length≤o.length:=by rw [List.length_take]; omega
    have hL:nxC o j (l.getD k default) j=o.take j++[l.getD k default]:=by unfold nxC; rw [Nat.sub_self,List.take_zero,List.append_nil]
    apply ze
    repeat (first|apply zq|apply zb|apply zk)
    apply zr
    repeat' (first|exact zt|apply zi|fail)
    all_goals first|exact fun _=>nn hk|exact Nat.le_refl _|exact rfl|exact fun _ _=>rfl|(intro i hi; obtain rfl:i=0:=(by omega); exact rfl)|omega|skip
    intro _
    refine AWp.rename 100 96 rfl rfl ?_
    repeat (first|apply zq|apply zb|apply zk)
    apply zr;intro _
    repeat (first|apply zq|apply zb|apply zk)
    refine AWp.loop (fun i:Nat=>⟨[(2,.ptr f.cells),(7,.sl 95 o.length),(8,.i64 b),(9,.i64 a),(10,claims l),(11,.i64 k),(13,.sl 96 (nxC o j (l.getD k default) i).length),(15,.i64 i)],[(95,rowC o),(96,rowC (nxC o j (l.getD k default) i))]⟩) (fun i=>j≤i∧i≤o.length) (fun i=>o.length - i) j ⟨Nat.le_refl _,hq0⟩ ?_ ?_
    ·refine zi ?_ (zi ⟨_,_,rfl,rfl,zg⟩ (zi zt (zi ⟨_,_,rfl,snoc_len hL,fun i hi=>snocRc hL rfl hi⟩ (zi zt zt))))
     repeat' (first|exact rfl|exact zt|exact congrArg (fun n=>some (AV.sl 96 n)) (snoc_len hL)|apply zi)
    rintro i ⟨hi1,hi0⟩
    repeat (first|apply zq|apply zb|apply zk)
    apply zr;intro _
    repeat (first|apply zq|apply zb|apply zk)
    apply AWp.cond;apply zi<;>intro h7
    ·have hi:i<o.length:=zd h7
     have hnl:=nxC_len (o:=o) (q:=j) (j:=i) (c:=l.getD k default)
     have hL:=nxC_snoc (o:=o) (q:=j) (j:=i) (c:=l.getD k default) hi hi1
     repeat (first|apply zq|apply zb|apply zk)
     apply zr
     repeat' (first|exact zt|apply zi|fail)
     all_goals first|(intro _; exact nn ((by omega)))|(intro _; show i<o.length; omega)|exact Nat.le_refl _|exact rfl|exact fun _ _=>rfl|(intro i hi; obtain rfl:i=0:=(by omega); exact rfl)|(show i<o.length; omega)|omega|skip
     intro _
     refine AWp.rename 114 96 rfl rfl ?_
     repeat (first|apply zq|apply zb|apply zk)
     apply zr;intro _
     refine Exists.intro (i+1) (zi ⟨by omega,hi⟩ (zi ?_ (by omega)))
     refine zi ?_ (zi ⟨_,_,rfl,rfl,zg⟩ (zi zt (zi ⟨_,_,rfl,snoc_len hL,fun i hi=>snocRc hL rfl hi⟩ (zi zt zt))))
     repeat' (first|exact rfl|exact zt|exact congrArg (fun n=>some (AV.sl 96 n)) (snoc_len hL)|exact zw hi hom|apply zi)
    have hi3:¬ (i:Int)<o.length:=of_decide_eq_false h7
    obtain rfl:i=o.length:=by omega
    have hE:insU o (l.getD k default)=nxC o j (l.getD k default) o.length:=by rw [hu,nxC_end hq0]
    apply ze
    repeat (first|apply zq|apply zb|apply zk)
    apply zr;intro _
    refine AWp.weaken (s':=⟨[(2,.ptr f.cells),(7,.sl 96 (insU o (l.getD k default)).length),(8,.i64 b),(9,.i64 a),(10,claims l),(11,.i64 k)],[(96,rowC (insU o (l.getD k default)))]⟩) ?_ ?_
    ·refine zi ?_ (zi (rowC_sub rfl hE) (zi zt zt))
     repeat' (first|exact rfl|exact zt|exact slC_eq hE|apply zi)
    refine AWp.rename 96 95 rfl rfl ?_
    repeat (first|apply zq|apply zb|apply zk)
    apply zr;intro _
    refine round_end (k+1) hk ?_ (by omega)
    rw [hn]
    refine zi ?_ (zi ⟨_,_,rfl,rfl,zg⟩ (zi zt zt))
    repeat' (first|exact rfl|exact zt|exact zw hk hlm|apply zi)
   have hk3:¬ (k:Int)<l.length:=of_decide_eq_false h3
   obtain rfl:k=l.length:=by omega
   have hE:insA (clB f b++clI f b (a+1))=insA (clB f b++clI f b a++l.take l.length):=by rw [List.take_length,hI,List.append_assoc]
   apply ze
   repeat (first|apply zq|apply zb|apply zk)
   apply zr;intro _
   refine round_end (a+1) ha ?_ (by omega)
   refine zi ?_ (zi (rowC_sub rfl hE) (zi zt zt))
   repeat' (first|exact rfl|exact zt|exact slC_eq hE|exact zw ha him|apply zi)
  have ha3:¬ (a:Int)<(f.Blocks.getD b default).Instrs.length:=of_decide_eq_false h2
  obtain rfl:a=(f.Blocks.getD b default).Instrs.length:=by omega
  apply ze
  repeat (first|apply zq|apply zb|apply zk)
  apply zr;intro _
  refine round_end (b+1) hb ?_ (by omega)
  refine zi ?_ (zi ⟨_,_,rfl,rfl,zg⟩ (zi zt zt))
  repeat' (first|exact rfl|exact zt|exact zw hb hbm|apply zi)
 have hb3:¬ (b:Int)<f.Blocks.length:=of_decide_eq_false h1
 obtain rfl:b=f.Blocks.length:=by omega
 apply ze
 refine AWp.freeze 95 (fun i=>clA ((insA (clB f f.Blocks.length)).getD i default)) rfl (fun i hi=>rfl) ?_
 repeat (first|apply zq|apply zb|apply zk)
 apply zr;intro _
 refine AWp.ret ⟨Or.inl rfl,rfl,?_⟩
 intro _
 rfl
theorem snocsR {K M:List C5} {i:Nat} (hi:i<(K++M).length):clA ((K++M).getD i default)=if i<K.length then clA (K.getD i default) else clA (M.getD (i - K.length) default):=by
 by_cases e:i<K.length
 ·rw [if_pos e]
  simp only [List.getD_eq_getElem?_getD,List.getElem?_append_left e]
 ·rw [if_neg e]
  simp only [List.getD_eq_getElem?_getD,List.getElem?_append_right (Nat.le_of_not_lt e)]
set_option maxRecDepth 4000 in
set_option maxHeartbeats 8000000 in
theorem c_Claims (f:Fun) (m:Mch) (hok:Fun.ok f) (hz:SizOk f) (h0:flwF f m=0) (h:∀ b a,b<f.Blocks.length→a<(f.Blocks.getD b default).Instrs.length→ClmOk f (xAt f b a)):ACallIs B.P 21 [f.av,m.av] (.tup [claims (insA (clB f f.Blocks.length)),.i64 0]):=by
 have hc:=c_FlowCheck f m hok
 rw [h0] at hc
 have hbl:=hz.blocks
 have hbm:f.Blocks.length≤maxLen:=by unfold maxLen; omega
 have hsl:(startsF f.Blocks).length=f.Blocks.length+1:=startsF_len _
 refine ACallIs.enter B _ _ Tryz.func21 rfl rfl Tryz.ntmps21 Tryz.results21 rfl fun _=>?_
 repeat (first|apply zq|apply zb|apply zk)
 apply zr;intro _
 refine AWp.freezeObj 2 rfl rfl ?_
 refine AWp.freezeObj 3 rfl rfl ?_
 repeat (first|apply zq|apply zb|apply zk)
 apply zr
 refine CallX.pure hc rfl rfl rfl ?_
 intro _
 repeat (first|apply zq|apply zb|apply zk)
 apply zr;intro _
 repeat (first|apply zq|apply zb|apply zk)
 apply AWp.cond;apply zi<;>intro h1
 ·cases h1
 refine AWp.skip ?_
 repeat (first|apply zq|apply zb|apply zk)
 apply zr
 refine CallX.pure (c_Starts f (by omega)) rfl rfl rfl ?_
 intro _
 repeat (first|apply zq|apply zb|apply zk)
 apply zr;intro _
 refine AWp.adopt 8 92 70 5 rfl rfl rfl ?_
 repeat (first|apply zq|apply zb|apply zk)
 apply zr;intro _
 repeat (first|apply zq|apply zb|apply zk)
 refine AWp.loop (fun b:Nat=>⟨[(2,.ptr f.cells),(7,ints (startsF f.Blocks)),(8,.sl 92 (clB f b).length),(22,.ro 3 f.Blocks.length (fun j=>(f.Blocks.getD j default).cells)),(23,.i64 f.Blocks.length),(24,.i64 b)],[(92,rowC (clB f b))]⟩) (fun b=>b≤f.Blocks.length) (fun b=>f.Blocks.length - b) 0 (Nat.zero_le _) ?_ ?_
 ·refine zi ?_ (zi ⟨_,_,rfl,rfl,fun i hi=>absurd hi (Nat.not_lt_zero _)⟩ (zi zt zt))
  repeat' (first|exact rfl|exact zt|apply zi)
 intro b hb0
 repeat (first|apply zq|apply zb|apply zk)
 apply zr;intro _
 repeat (first|apply zq|apply zb|apply zk)
 apply AWp.cond;apply zi<;>intro h1
 ·have hb:b<f.Blocks.length:=zd h1
  have hil:=hz.instrs b hb
  have him:(f.Blocks.getD b default).Instrs.length≤maxLen:=by unfold maxLen; omega
  have hBl:=clB_len hz b (by omega)
  have hs0:=stB hz b (by omega)
  have hst:((startsF f.Blocks).getD b default)=startF f.Blocks b:=startsF_get (by omega)
  repeat (first|apply zq|apply zb|apply zk)
  apply zr
  repeat' (first|exact zt|apply zi|fail)
  all_goals first|exact fun _=>nn hb|skip
  intro _
  refine AWp.freezeObj 10 rfl rfl ?_
  repeat (first|apply zq|apply zb|apply zk)
  apply zr;intro _
  repeat (first|apply zq|apply zb|apply zk)
  refine AWp.loop (fun a:Nat=>⟨[(2,.ptr f.cells),(7,ints (startsF f.Blocks)),(8,.sl 92 (clB f b++clI f b a).length),(22,.ro 3 f.Blocks.length (fun j=>(f.Blocks.getD j default).cells)),(23,.i64 f.Blocks.length),(24,.i64 b),(9,.i64 b),(30,.ro 3 (f.Blocks.getD b default).Instrs.length (fun j=>((f.Blocks.getD b default).Instrs.getD j default).cells)),(31,.i64 (f.Blocks.getD b default).Instrs.length),(32,.i64 a)],[(92,rowC (clB f b++clI f b a))]⟩) (fun a=>a≤(f.Blocks.getD b default).Instrs.length) (fun a=>(f.Blocks.getD b default).Instrs.length - a) 0 (Nat.zero_le _) ?_ ?_
  ·refine zi ?_ (zi (rowC_sub rfl (List.append_nil _)) (zi zt zt))
   repeat' (first|exact rfl|exact zt|exact slC_eq (List.append_nil _)|apply zi)
  intro a ha0
  repeat (first|apply zq|apply zb|apply zk)
  apply zr;intro _
  repeat (first|apply zq|apply zb|apply zk)
  apply AWp.cond;apply zi<;>intro h2
  ·have ha:a<(f.Blocks.getD b default).Instrs.length:=zd h2
   have hIl:=clI_len hz hb a (by omega)
   have hll:=cwOk_len (f:=f) (x:=xAt f b a) (e:=erl f b a) (xAt f b a).Operands.length
   have hl1:(xAt f b a).Operands.length≤6:=hz.ops b a hb ha
   have hl2:(xAt f b a).Spoils.length≤20:=hz.spo b a hb ha
   have hE:clB f b++clI f b (a+1)=clB f b++clI f b a++cwI f (xAt f b a) (erl f b a):=(List.append_assoc _ _ _).symm
   have hEl:(clB f b++clI f b a).length+(cwI f (xAt f b a) (erl f b a)).length=(clB f b++clI f b (a+1)).length:=by rw [hE]; simp only [List.length_append]
   have hsum:(clB f b++clI f b a).length+(cwI f (xAt f b a) (erl f b a)).length≤20000:=by rw [List.length_append]; unfold cwI; omega
   have hcl:=c_claims f (xAt f b a) (h b a hb ha) (erl f b a) (erl_bd hz hb ha)
   have we:IntKind.i64.wrap (IntKind.i64.wrap ((startsF f.Blocks).getD b default+1)+IntKind.i64.wrap (2 * (a:Int)))=erl f b a:=by
    rw [hst,wrap_in (n:=startF f.Blocks b+1) (by omega) (by omega),wrap_in (n:=2 * (a:Int)) (by omega) (by omega),wrap_in (by omega) (by omega)]; rfl
   rw [show AV.i64 (erl f b a)=AV.i64 (IntKind.i64.wrap (IntKind.i64.wrap ((startsF f.Blocks).getD b default+1)+IntKind.i64.wrap (2 * (a:Int)))) by rw [we]] at hcl
   repeat (first|apply zq|apply zb|apply zk)
   apply zr
   repeat' (first|exact zt|apply zi|fail)
   all_goals first|exact fun _=>nn ha|skip
   intro _
   refine AWp.freezeObj 12 rfl rfl ?_
   repeat (first|apply zq|apply zb|apply zk)
   refine AWp.quietFirst (.q 0 (.q 1 (.q 2 (.q 3 (.q 4 (.q 5 (.q 6 (.q 7 (.q 8 (.q 9 (.q 10 (.c 11 false (.c 12 true (.q 13 .fin) .no) .no)))))))))))) [0,1,2,3,4,5,6,7,8,9,10,13] [92] mixed (by kernel_rfl) ?_
   repeat' (first|exact zt|apply zi|refine CallX.pure hcl rfl rfl rfl ?_|fail)
   all_goals first|(intro _; exact nn ((by omega)))|exact fun _ _=>rfl|exact rfl|omega|skip
   intro _
   refine AWp.rename 49 92 rfl rfl ?_
   repeat (first|apply zq|apply zb|apply zk)
   apply zr;intro _
   refine round_end (a+1) ha ?_ (by omega)
   refine zi ?_ (zi ⟨_,_,rfl,hEl,fun i hi=>by rw [hE] at hi ⊢; exact snocsR hi⟩ (zi zt zt))
   repeat' (first|exact rfl|exact zt|exact congrArg (fun n=>some (AV.sl 92 n)) hEl|exact zw ha him|apply zi)
  have ha3:¬ (a:Int)<(f.Blocks.getD b default).Instrs.length:=of_decide_eq_false h2
  obtain rfl:a=(f.Blocks.getD b default).Instrs.length:=by omega
  apply ze
  repeat (first|apply zq|apply zb|apply zk)
  apply zr;intro _
  refine round_end (b+1) hb ?_ (by omega)
  refine zi ?_ (zi ⟨_,_,rfl,rfl,zg⟩ (zi zt zt))
  repeat' (first|exact rfl|exact zt|exact zw hb hbm|apply zi)
 have hb3:¬ (b:Int)<f.Blocks.length:=of_decide_eq_false h1
 obtain rfl:b=f.Blocks.length:=by omega
 have hBl:=clB_len hz f.Blocks.length (Nat.le_refl _)
 obtain ⟨S,hp,hs,hsort⟩:=c_Sort (clB f f.Blocks.length) (clB_ok hz h _ (Nat.le_refl _)) (by omega)
 have hcomp:ACallM B.P 47 ⟨[.sl ⟨1001,[]⟩ (clB f f.Blocks.length).length],[(1001,.row 70 5 (clB f f.Blocks.length).length fun i=>clA (S.getD i default))],.sl ⟨2,[]⟩ (insA (clB f f.Blocks.length)).length,[(2,rowC (insA (clB f f.Blocks.length)))]⟩:=by
  rw [← hp.length_eq,← dd_ins hp hs]
  exact m_Compact S (by rw [hp.length_eq]; omega)
 apply ze
 repeat (first|apply zq|apply zb|apply zk)
 apply zr
 refine CallX.lend hsort [(1001,92)] rfl (zi rfl zt) rfl ?_
 intro _
 repeat (first|apply zq|apply zb|apply zk)
 apply zr
 refine CallX.lend hcomp [(1001,92),(2,97)] rfl (zi rfl zt) rfl ?_
 intro _
 refine AWp.freeze 97 (fun i=>clA ((insA (clB f f.Blocks.length)).getD i default)) rfl (fun i hi=>rfl) ?_
 refine AWp.ret ⟨Or.inl rfl,rfl,?_⟩
 intro _
 rfl
end Go.Proofs.YtbmccmbgnkbmiaaGreat

/- Spans of values: neededPoint, span, live.Spans, SpansOf and sameSpans -/
import Derived.Test.YtbmccmbgnkbmiaaGreatLiv
set_option linter.unusedVariables false
set_option linter.unusedSimpArgs false
namespace Go.Proofs.YtbmccmbgnkbmiaaGreat
open Go Go.Abs Go.RowKit Go.Abs.Gra
def isZ (L:List Int) (v:Int) (j:Nat):Bool:=v==L.getD j default
theorem anyB_isZ (L:List Int) (v:Int):anyB (isZ L v) L.length=decide (v∈L):=by
 rw [← anyB_mem]
 exact anyB_congr fun j hj=>by unfold isZ isI; exact Bool.beq_comm
set_option maxHeartbeats 1000000 in
theorem c_IndexZ (L:List Int) (v:Int) (hlen:L.length≤maxLen):ACallIs B.P 137 [ints L,.i64 v] (.i64 (idxF (isZ L v) L.length)):=by
 refine ACallIs.enter B _ _ Tryz.func137 rfl rfl Tryz.ntmps137 Tryz.results137 rfl fun _=>?_
 refine AWp.seq (AWp.region ?_)
 intro _
 refine AWp.seq (AWp.seq (AWp.region ?_))
 intro _
 refine AWp.block (AWp.loop (fun k:Nat=>⟨[(0,ints L),(1,.i64 v),(7,.i64 L.length),(8,.i64 k)],[]⟩) (fun k=>k≤L.length∧∀ j,j<k→isZ L v j=false) (fun k=>L.length - k) 0 ⟨Nat.zero_le _,fun j hj=>absurd hj (by omega)⟩ ?_ ?_)
 ·repeat' (first|exact rfl|exact zt|apply zi)
 intro k hk
 obtain ⟨hk,hg⟩:=hk
 repeat' (first
  | apply zq|apply zb|apply zk|apply ze
  | apply zr|refine AWp.draw mixed (by kernel_rfl) ?_
  | refine AWp.cond (zi (fun h=>?_) (fun h=>?_))
  | refine AWp.ret ⟨Or.inl rfl,rfl,?_⟩
  | exact zt|apply zi|intro _)
 all_goals first|assumption|exact tupI (idxF_none (n:=L.length) (fun j hj=>hg j (by grind))).symm|refine tupI (idxF_hit (k:=k) (n:=L.length) (by grind) hg ?_).symm|refine round_end (k+1) ⟨by grind,upto hg ?_⟩ (by repeat' (first|exact rfl|exact zt|exact zw (show k<L.length from by grind) hlen|apply zi)) (by grind)|skip
 all_goals first|assumption|((try clear hg); (try simp only [Int.toNat_natCast,Bool.cond_true_left,Bool.cond_false_right,Bool.or_eq_true,Bool.and_eq_true,Bool.or_eq_false_iff,Bool.and_eq_false_iff,beq_eq_false_iff_ne,Bool.not_eq_true',Bool.not_eq_false',decide_eq_true_eq,decide_eq_false_iff_not,beq_iff_eq,isZ] at *); (try simp only [bif_if] at *); ((skip)<;>grind))
theorem c_ContainsZ (L:List Int) (v:Int) (hlen:L.length≤maxLen):ACallIs B.P 82 [ints L,.i64 v] (.bool (decide (v∈L))):=by
 refine ACallIs.enter B _ _ Tryz.func82 rfl rfl Tryz.ntmps82 Tryz.results82 rfl fun _=>?_
 repeat' (first
  | apply zq|apply zb|apply zk|apply ze
  | apply zr|refine AWp.draw mixed (by kernel_rfl) ?_
  | refine AWp.cond (zi (fun h=>?_) (fun h=>?_))
  | refine AWp.ret ⟨Or.inl rfl,rfl,?_⟩
  | refine CallX.pure (c_IndexZ L v hlen) rfl rfl rfl ?_|refine CallK.intro (fun _=>c_IndexZ L v hlen) ?_
  | exact zt|apply zi|intro _)
 exact tupB ((idxF_any _ _).trans (anyB_isZ L v))
def pntF (o:Opd) (i:Nat):Int:=if o.Late=true then 2+2 * (i:Int) else 1+2 * (i:Int)
def spnK (o:Opd) (i:Nat) (s:Int×Int):Int×Int:=if o.Kind=2 then (pntF o i,2+2 * (i:Int)) else s
def spnP (v:Int) (i:Nat) (o:Opd) (s:Int×Int):Int×Int :=
 if o.Value=v then (if o.Kind=1∧(spnK o i s).2<pntF o i then ((spnK o i s).1,pntF o i) else spnK o i s) else s
def spnO (x:Ins) (v:Int) (i:Nat) (s:Int×Int):Nat→Int×Int
 | 0=>s
 | k+1=>spnP v i (x.Operands.getD k default) (spnO x v i s k)
def spnI (x:Blk) (v:Int) (s:Int×Int):Nat→Int×Int
 | 0=>s
 | i+1=>spnO (x.Instrs.getD i default) v i (spnI x v s i) (x.Instrs.getD i default).Operands.length
def spn0 (x:Blk) (v:Int) (g:Bool):Int:=bif g||decide (v∈x.Params) then 0 else -1
def spnE (x:Blk) (v:Int) (g h:Bool):Int×Int :=
 let s:=spnI x v (spn0 x v g,spn0 x v g) x.Instrs.length
 bif h then (s.1,1+2 * (x.Instrs.length:Int)) else s
set_option maxHeartbeats 8000000 in
theorem c_neededPoint (f:Fun) (hC:Chkd f) (hf:Fun.ok f) (I:Nat→Bool) (b:Nat) (hb:b<f.Blocks.length) (v at_:Int) :
  ACallIs B.P 50 [f.av,.ro 1 f.Blocks.length (fun i=>[.bool (I i)]),.i64 b,.i64 v,.i64 at_] (.bool (bif decide (0≤(spnE (blkA f b) v (I b) (anyB (fun k=>I (edT f b k)) (blkA f b).Edges.length||argB (blkA f b) v)).1) then inB at_ (spnE (blkA f b) v (I b) (anyB (fun k=>I (edT f b k)) (blkA f b).Edges.length||argB (blkA f b) v)).1 (spnE (blkA f b) v (I b) (anyB (fun k=>I (edT f b k)) (blkA f b).Edges.length||argB (blkA f b) v)).2 else false)):=by
 have hx:=blkS_of hC hf hb
 have hlm:=hx.i
 have hl40:(blkA f b).Instrs.length≤40:=hC.e.siz.instrs b hb
 refine ACallIs.enter B _ _ Tryz.func50 rfl rfl Tryz.ntmps50 Tryz.results50 rfl fun _=>?_
 repeat (first|apply zq|apply zb|apply zk)
 apply zr;intro _
 refine AWp.freezeObj 5 rfl rfl ?_
 repeat (first|apply zq|apply zb|apply zk)
 apply zr
 repeat' (first|exact zt|apply zi|fail)
 all_goals first|exact fun _=>nn hb|skip
 intro _
 refine AWp.freezeObj 11 rfl rfl ?_
 repeat (first|apply zq|apply zb|apply zk)
 apply zr;intro _
 repeat (first|apply zq|apply zb|apply zk)
 apply zr
 repeat' (first|exact zt|apply zi|refine CallK.intro (fun _=>c_has (blkA f b).Params v hx.p) ?_|fail)
 all_goals first|exact fun _=>nn hb|exact fun h=>h|exact gT|exact gF|exact gN|exact gA|skip
 intro _
 repeat (first|apply zq|apply zb|apply zk)
 refine AWp.mono (Q:=fun e t=>e=.normal∧Sub ⟨[(1,.ro 1 f.Blocks.length (fun i=>[.bool (I i)])),(2,.i64 b),(3,.i64 v),(4,.i64 at_),(5,.ptr f.cells),(11,.ptr (blkA f b).cells),(12,.i64 (spn0 (blkA f b) v (I b)))],[]⟩ t) ?_ ?_
 ·repeat (first|apply zq|apply zb|apply zk)
  apply AWp.cond;apply zi<;>intro h1
  ·have h1:(bif !I b then !decide (v∈(blkA f b).Params) else false)=true:=h1
   repeat (first|apply zq|apply zb|apply zk)
   apply zr;intro _
   refine zi rfl (zi ?_ zt)
   repeat' (first|exact rfl|exact zt|exact congrArg (fun z=>some (AV.i64 z)) (by unfold spn0; revert h1; cases I b<;>cases decide (v∈(blkA f b).Params)<;>simp)|apply zi)
  ·have h1:(bif !I b then !decide (v∈(blkA f b).Params) else false)=false:=h1
   refine AWp.skip ?_
   refine zi rfl (zi ?_ zt)
   repeat' (first|exact rfl|exact zt|exact congrArg (fun z=>some (AV.i64 z)) (by unfold spn0; revert h1; cases I b<;>cases decide (v∈(blkA f b).Params)<;>simp)|apply zi)
 rintro _ _ ⟨rfl,hs⟩
 refine AWp.weaken hs ?_
 repeat (first|apply zq|apply zb|apply zk)
 apply zr;intro _
 repeat (first|apply zq|apply zb|apply zk)
 apply zr;intro _
 repeat (first|apply zq|apply zb|apply zk)
 refine AWp.loop (fun i:Nat=>⟨[(1,.ro 1 f.Blocks.length (fun i=>[.bool (I i)])),(2,.i64 b),(3,.i64 v),(4,.i64 at_),(5,.ptr f.cells),(11,.ptr (blkA f b).cells),(12,.i64 ((spnI (blkA f b) v (spn0 (blkA f b) v (I b),spn0 (blkA f b) v (I b)) i)).1),(13,.i64 ((spnI (blkA f b) v (spn0 (blkA f b) v (I b),spn0 (blkA f b) v (I b)) i)).2),(14,.i64 i)],[]⟩) (fun i=>i≤(blkA f b).Instrs.length) (fun i=>(blkA f b).Instrs.length - i) 0 (Nat.zero_le _) ?_ ?_
 ·refine zi ?_ zt
  repeat' (first|exact rfl|exact zt|apply zi)
 intro i hi0
 repeat (first|apply zq|apply zb|apply zk)
 apply zr;intro _
 repeat (first|apply zq|apply zb|apply zk)
 apply AWp.cond;apply zi<;>intro h2
 ·have hi:i<(blkA f b).Instrs.length:=zd h2
  have hom:=hx.o i hi
  repeat (first|apply zq|apply zb|apply zk)
  apply zr;intro _
  repeat (first|apply zq|apply zb|apply zk)
  refine AWp.loop (fun k:Nat=>⟨[(1,.ro 1 f.Blocks.length (fun i=>[.bool (I i)])),(2,.i64 b),(3,.i64 v),(4,.i64 at_),(5,.ptr f.cells),(11,.ptr (blkA f b).cells),(12,.i64 ((spnO ((blkA f b).Instrs.getD i default) v i (spnI (blkA f b) v (spn0 (blkA f b) v (I b),spn0 (blkA f b) v (I b)) i) k)).1),(13,.i64 ((spnO ((blkA f b).Instrs.getD i default) v i (spnI (blkA f b) v (spn0 (blkA f b) v (I b),spn0 (blkA f b) v (I b)) i) k)).2),(14,.i64 i),(15,.i64 k)],[]⟩) (fun k=>k≤((blkA f b).Instrs.getD i default).Operands.length) (fun k=>((blkA f b).Instrs.getD i default).Operands.length - k) 0 (Nat.zero_le _) ?_ ?_
  ·refine zi ?_ zt
   repeat' (first|exact rfl|exact zt|apply zi)
  intro k hk0
  repeat (first|apply zq|apply zb|apply zk)
  apply zr
  repeat' (first|exact zt|apply zi|fail)
  all_goals first|exact fun _=>nn hi|skip
  intro _
  repeat (first|apply zq|apply zb|apply zk)
  apply AWp.cond;apply zi<;>intro h3
  ·have hk:k<((blkA f b).Instrs.getD i default).Operands.length:=zd h3
   have w1:IntKind.i64.wrap (2 * (i:Int))=2 * (i:Int):=wrap_in (by omega) (by omega)
   have w2:IntKind.i64.wrap (1+2 * (i:Int))=1+2 * (i:Int):=wrap_in (by omega) (by omega)
   have w3:IntKind.i64.wrap (1+2 * (i:Int)+1)=2+2 * (i:Int):=(wrap_in (by omega) (by omega)).trans (by omega)
   have w4:IntKind.i64.wrap (2+2 * (i:Int))=2+2 * (i:Int):=wrap_in (by omega) (by omega)
   refine AWp.skip ?_
   refine AWp.seq ?_
   refine AWp.mono (Q:=fun e t=>e=.normal∧Sub ⟨[(1,.ro 1 f.Blocks.length (fun i=>[.bool (I i)])),(2,.i64 b),(3,.i64 v),(4,.i64 at_),(5,.ptr f.cells),(11,.ptr (blkA f b).cells),(12,.i64 (spnP v i (((blkA f b).Instrs.getD i default).Operands.getD k default) (spnO ((blkA f b).Instrs.getD i default) v i (spnI (blkA f b) v (spn0 (blkA f b) v (I b),spn0 (blkA f b) v (I b)) i) k)).1),(13,.i64 (spnP v i (((blkA f b).Instrs.getD i default).Operands.getD k default) (spnO ((blkA f b).Instrs.getD i default) v i (spnI (blkA f b) v (spn0 (blkA f b) v (I b),spn0 (blkA f b) v (I b)) i) k)).2),(14,.i64 i),(15,.i64 k)],[]⟩ t) ?_ ?_
   ·repeat (first|apply zq|apply zb|apply zk)
    apply zr
    repeat' (first|exact zt|apply zi|fail)
    all_goals first|exact fun _=>nn hi|exact fun _=>nn hk|skip
    intro _
    refine AWp.freezeObj 16 rfl rfl ?_
    repeat (first|apply zq|apply zb|apply zk)
    apply zr;intro _
    repeat (first|apply zq|apply zb|apply zk)
    apply AWp.cond;apply zi<;>intro h4
    ·have h4:¬ (((blkA f b).Instrs.getD i default).Operands.getD k default).Value=v:=by
      have h4:((((blkA f b).Instrs.getD i default).Operands.getD k default).Value != v)=true:=h4
      simpa using h4
     apply ze
     refine zi rfl (zi ?_ zt)
     repeat' (first|exact rfl|exact zt|exact congrArg (fun z=>some (AV.i64 z)) (by unfold spnP; rw [if_neg h4])|apply zi)
    have h4:(((blkA f b).Instrs.getD i default).Operands.getD k default).Value=v:=by
     have h4:((((blkA f b).Instrs.getD i default).Operands.getD k default).Value != v)=false:=h4
     simpa using h4
    refine AWp.skip ?_
    repeat (first|apply zq|apply zb|apply zk)
    apply zr;intro _
    repeat (first|apply zq|apply zb|apply zk)
    apply zr;intro _
    repeat (first|apply zq|apply zb|apply zk)
    refine AWp.mono (Q:=fun e t=>e=.normal∧Sub ⟨[(1,.ro 1 f.Blocks.length (fun i=>[.bool (I i)])),(2,.i64 b),(3,.i64 v),(4,.i64 at_),(5,.ptr f.cells),(11,.ptr (blkA f b).cells),(12,.i64 ((spnO ((blkA f b).Instrs.getD i default) v i (spnI (blkA f b) v (spn0 (blkA f b) v (I b),spn0 (blkA f b) v (I b)) i) k)).1),(13,.i64 ((spnO ((blkA f b).Instrs.getD i default) v i (spnI (blkA f b) v (spn0 (blkA f b) v (I b),spn0 (blkA f b) v (I b)) i) k)).2),(14,.i64 i),(15,.i64 k),(16,.ptr (((blkA f b).Instrs.getD i default).Operands.getD k default).cells),(17,.i64 (pntF (((blkA f b).Instrs.getD i default).Operands.getD k default) i))],[]⟩ t) ?_ ?_
    ·repeat (first|apply zq|apply zb|apply zk)
     apply AWp.cond;apply zi<;>intro h5
     ·have h5:(((blkA f b).Instrs.getD i default).Operands.getD k default).Late=true:=h5
      repeat (first|apply zq|apply zb|apply zk)
      apply zr;intro _
      refine zi rfl (zi ?_ zt)
      repeat' (first|exact rfl|exact zt|exact congrArg (fun z=>some (AV.i64 z)) (by unfold pntF; rw [if_pos h5,w1,w2,w3])|apply zi)
     ·have h5:(((blkA f b).Instrs.getD i default).Operands.getD k default).Late=false:=h5
      refine AWp.skip ?_
      refine zi rfl (zi ?_ zt)
      repeat' (first|exact rfl|exact zt|exact congrArg (fun z=>some (AV.i64 z)) (by unfold pntF; rw [if_neg (by rw [h5]; simp),w1,w2])|apply zi)
    rintro _ _ ⟨rfl,hs2⟩
    refine AWp.weaken hs2 ?_
    repeat (first|apply zq|apply zb|apply zk)
    apply zr;intro _
    repeat (first|apply zq|apply zb|apply zk)
    refine AWp.mono (Q:=fun e t=>e=.normal∧Sub ⟨[(1,.ro 1 f.Blocks.length (fun i=>[.bool (I i)])),(2,.i64 b),(3,.i64 v),(4,.i64 at_),(5,.ptr f.cells),(11,.ptr (blkA f b).cells),(12,.i64 (spnK (((blkA f b).Instrs.getD i default).Operands.getD k default) i (spnO ((blkA f b).Instrs.getD i default) v i (spnI (blkA f b) v (spn0 (blkA f b) v (I b),spn0 (blkA f b) v (I b)) i) k)).1),(13,.i64 (spnK (((blkA f b).Instrs.getD i default).Operands.getD k default) i (spnO ((blkA f b).Instrs.getD i default) v i (spnI (blkA f b) v (spn0 (blkA f b) v (I b),spn0 (blkA f b) v (I b)) i) k)).2),(14,.i64 i),(15,.i64 k),(16,.ptr (((blkA f b).Instrs.getD i default).Operands.getD k default).cells),(17,.i64 (pntF (((blkA f b).Instrs.getD i default).Operands.getD k default) i))],[]⟩ t) ?_ ?_
    ·repeat (first|apply zq|apply zb|apply zk)
     apply AWp.cond;apply zi<;>intro h6
     ·have h6:(((blkA f b).Instrs.getD i default).Operands.getD k default).Kind=2:=by
       have h6:((((blkA f b).Instrs.getD i default).Operands.getD k default).Kind==2)=true:=h6
       simpa using h6
      repeat (first|apply zq|apply zb|apply zk)
      apply zr;intro _
      repeat (first|apply zq|apply zb|apply zk)
      apply zr;intro _
      refine zi rfl (zi ?_ zt)
      repeat' (first|exact rfl|exact zt|exact congrArg (fun z=>some (AV.i64 z)) (by unfold spnK; rw [if_pos h6]; first|done|(show _=2+2 * (i:Int); rw [w1,w4]))|apply zi)
     ·have h6:¬ (((blkA f b).Instrs.getD i default).Operands.getD k default).Kind=2:=by
       have h6:((((blkA f b).Instrs.getD i default).Operands.getD k default).Kind==2)=false:=h6
       simpa using h6
      refine AWp.skip ?_
      refine zi rfl (zi ?_ zt)
      repeat' (first|exact rfl|exact zt|exact congrArg (fun z=>some (AV.i64 z)) (by unfold spnK; rw [if_neg h6])|apply zi)
    rintro _ _ ⟨rfl,hs3⟩
    refine AWp.weaken hs3 ?_
    repeat (first|apply zq|apply zb|apply zk)
    apply zr
    repeat' (first|exact zt|apply zi|fail)
    all_goals first|exact fun h=>h|exact gT|exact gF|exact gN|exact gA|skip
    intro _
    repeat (first|apply zq|apply zb|apply zk)
    apply AWp.cond;apply zi<;>intro h7
    ·have h7:(((blkA f b).Instrs.getD i default).Operands.getD k default).Kind=1∧(spnK (((blkA f b).Instrs.getD i default).Operands.getD k default) i (spnO ((blkA f b).Instrs.getD i default) v i (spnI (blkA f b) v (spn0 (blkA f b) v (I b),spn0 (blkA f b) v (I b)) i) k)).2<pntF (((blkA f b).Instrs.getD i default).Operands.getD k default) i:=by
      have h7:(bif (((blkA f b).Instrs.getD i default).Operands.getD k default).Kind==1 then decide (pntF (((blkA f b).Instrs.getD i default).Operands.getD k default) i>(spnK (((blkA f b).Instrs.getD i default).Operands.getD k default) i (spnO ((blkA f b).Instrs.getD i default) v i (spnI (blkA f b) v (spn0 (blkA f b) v (I b),spn0 (blkA f b) v (I b)) i) k)).2) else false)=true:=h7
      cases hq:(((blkA f b).Instrs.getD i default).Operands.getD k default).Kind==1 with
      | true=>rw [hq] at h7; exact ⟨by simpa using hq,by simpa using h7⟩
      | false=>rw [hq] at h7; cases h7
     repeat (first|apply zq|apply zb|apply zk)
     apply zr;intro _
     refine zi rfl (zi ?_ zt)
     repeat' (first|exact rfl|exact zt|exact congrArg (fun z=>some (AV.i64 z)) (by unfold spnP; rw [if_pos h4,if_pos h7])|apply zi)
    ·have h7:¬ ((((blkA f b).Instrs.getD i default).Operands.getD k default).Kind=1∧(spnK (((blkA f b).Instrs.getD i default).Operands.getD k default) i (spnO ((blkA f b).Instrs.getD i default) v i (spnI (blkA f b) v (spn0 (blkA f b) v (I b),spn0 (blkA f b) v (I b)) i) k)).2<pntF (((blkA f b).Instrs.getD i default).Operands.getD k default) i):=by
      have h7:(bif (((blkA f b).Instrs.getD i default).Operands.getD k default).Kind==1 then decide (pntF (((blkA f b).Instrs.getD i default).Operands.getD k default) i>(spnK (((blkA f b).Instrs.getD i default).Operands.getD k default) i (spnO ((blkA f b).Instrs.getD i default) v i (spnI (blkA f b) v (spn0 (blkA f b) v (I b),spn0 (blkA f b) v (I b)) i) k)).2) else false)=false:=h7
      rintro ⟨q1,q2⟩
      rw [show ((((blkA f b).Instrs.getD i default).Operands.getD k default).Kind==1)=true by rw [q1]; rfl] at h7
      have h7:decide (pntF (((blkA f b).Instrs.getD i default).Operands.getD k default) i>(spnK (((blkA f b).Instrs.getD i default).Operands.getD k default) i (spnO ((blkA f b).Instrs.getD i default) v i (spnI (blkA f b) v (spn0 (blkA f b) v (I b),spn0 (blkA f b) v (I b)) i) k)).2)=false:=h7
      exact of_decide_eq_false h7 q2
     refine AWp.skip ?_
     refine zi rfl (zi ?_ zt)
     repeat' (first|exact rfl|exact zt|exact congrArg (fun z=>some (AV.i64 z)) (by unfold spnP; rw [if_pos h4,if_neg h7])|apply zi)
   rintro _ _ ⟨rfl,hs1⟩
   refine AWp.weaken hs1 ?_
   repeat (first|apply zq|apply zb|apply zk)
   apply zr;intro _
   refine round_end (k+1) hk ?_ (by omega)
   refine zi ?_ zt
   repeat' (first|exact rfl|exact zt|exact zw hk hom|apply zi)
  ·have hk3:¬ (k:Int)<((blkA f b).Instrs.getD i default).Operands.length:=of_decide_eq_false h3
   obtain rfl:k=((blkA f b).Instrs.getD i default).Operands.length:=by omega
   apply ze
   repeat (first|apply zq|apply zb|apply zk)
   apply zr;intro _
   refine round_end (i+1) hi ?_ (by omega)
   refine zi ?_ zt
   repeat' (first|exact rfl|exact zt|exact zw hi hlm|apply zi)
 ·have hi3:¬ (i:Int)<(blkA f b).Instrs.length:=of_decide_eq_false h2
  obtain rfl:i=(blkA f b).Instrs.length:=by omega
  apply ze
  repeat (first|apply zq|apply zb|apply zk)
  apply zr
  repeat' (first|exact zt|apply zi|refine CallX.pure (c_neededBehind f hC hf I b hb v) rfl rfl rfl ?_|fail)
  intro _
  have w1:IntKind.i64.wrap (2 * ((blkA f b).Instrs.length:Int))=2 * ((blkA f b).Instrs.length:Int):=wrap_in (by omega) (by omega)
  have w2:IntKind.i64.wrap (1+2 * ((blkA f b).Instrs.length:Int))=1+2 * ((blkA f b).Instrs.length:Int):=wrap_in (by omega) (by omega)
  repeat (first|apply zq|apply zb|apply zk)
  refine AWp.mono (Q:=fun e t=>e=.normal∧Sub ⟨[(4,.i64 at_),(12,.i64 (spnE (blkA f b) v (I b) (anyB (fun k=>I (edT f b k)) (blkA f b).Edges.length||argB (blkA f b) v)).1),(13,.i64 (spnE (blkA f b) v (I b) (anyB (fun k=>I (edT f b k)) (blkA f b).Edges.length||argB (blkA f b) v)).2)],[]⟩ t) ?_ ?_
  ·repeat (first|apply zq|apply zb|apply zk)
   apply AWp.cond;apply zi<;>intro h8
   ·have h8:(anyB (fun k=>I (edT f b k)) (blkA f b).Edges.length||argB (blkA f b) v)=true:=h8
    repeat (first|apply zq|apply zb|apply zk)
    apply zr;intro _
    refine zi rfl (zi ?_ zt)
    repeat' (first|exact rfl|exact zt|exact congrArg (fun z=>some (AV.i64 z)) (by unfold spnE; rw [h8]; first|rfl|(rw [w1,w2]; rfl))|apply zi)
   ·have h8:(anyB (fun k=>I (edT f b k)) (blkA f b).Edges.length||argB (blkA f b) v)=false:=h8
    refine AWp.skip ?_
    refine zi rfl (zi ?_ zt)
    repeat' (first|exact rfl|exact zt|exact congrArg (fun z=>some (AV.i64 z)) (by unfold spnE; rw [h8]; rfl)|apply zi)
  rintro _ _ ⟨rfl,hs4⟩
  refine AWp.weaken hs4 ?_
  repeat (first|apply zq|apply zb|apply zk)
  apply zr
  repeat' (first|exact zt|apply zi|refine CallK.intro (fun _=>c_In _ _ _) ?_|fail)
  all_goals first|exact fun h=>h|exact gT|exact gF|exact gN|exact gA|skip
  intro _
  refine AWp.ret ⟨Or.inl rfl,rfl,?_⟩
  intro _
  rfl
def sqP (e v:Int) (o:Opd) (s:Int×Int×Bool):Int×Int×Bool :=
 if o.Value=v then (if o.Kind=2 then (if o.Late=true then (e+1,e+2,true) else (e,e+2,true)) else (s.1,max s.2.1 (if o.Late=true then e+2 else e+1),s.2.2)) else s
section
variable {e v : Int} {o : Opd} {s : Int × Int × Bool}
theorem sqP_no (h:¬ o.Value=v):sqP e v o s=s:=if_neg h
theorem sqP_dl (h:o.Value=v) (h1:o.Kind=2) (h2:o.Late=true):sqP e v o s=(e+1,e+2,true):=by unfold sqP; rw [if_pos h,if_pos h1,if_pos h2]
theorem sqP_de (h:o.Value=v) (h1:o.Kind=2) (h2:o.Late=false):sqP e v o s=(e,e+2,true):=by unfold sqP; rw [if_pos h,if_pos h1,if_neg (by rw [h2]; simp)]
theorem sqP_ul (h:o.Value=v) (h1:¬ o.Kind=2) (h2:o.Late=true):sqP e v o s=(s.1,max s.2.1 (e+2),s.2.2):=by unfold sqP; rw [if_pos h,if_neg h1,if_pos h2]
theorem sqP_ue (h:o.Value=v) (h1:¬ o.Kind=2) (h2:o.Late=false):sqP e v o s=(s.1,max s.2.1 (e+1),s.2.2):=by unfold sqP; rw [if_pos h,if_neg h1,if_neg (by rw [h2]; simp)]
end
def sqO (x:Ins) (v st:Int) (i:Nat) (s:Int×Int×Bool):Nat→Int×Int×Bool
 | 0=>s
 | k+1=>sqP (st+1+2 * (i:Int)) v (x.Operands.getD k default) (sqO x v st i s k)
def sqI (x:Blk) (v st:Int) (s:Int×Int×Bool):Nat→Int×Int×Bool
 | 0=>s
 | i+1=>sqO (x.Instrs.getD i default) v st i (sqI x v st s i) (x.Instrs.getD i default).Operands.length
def sq0 (x:Blk) (v st:Int) (g:Bool):Int×Int×Bool:=bif g||decide (v∈x.Params) then (st,st+1,true) else (0,0,false)
def sqE (x:Blk) (v st:Int) (g h:Bool):Int×Int×Bool :=
 let s:=sqI x v st (sq0 x v st g) x.Instrs.length
 bif h then (s.1,st+2+2 * (x.Instrs.length:Int),s.2.2) else s
set_option maxHeartbeats 8000000 in
theorem c_span (f:Fun) (hC:Chkd f) (hf:Fun.ok f) {kk:Nat} (hk:kk=nW f.Values.length) (b v:Nat) (hb:b<f.Blocks.length) (hv:v<f.Values.length) (st:Int) (hs0:0≤st) (hs1:st≤100000) :
  ACallIs B.P 41 [.ptr (ndC f kk),.i64 b,.i64 v,.i64 st] (.tup [.agg [.i64 (sqE (blkA f b) ((v:Nat):Int) st (nedA f b v) (behA f b v)).1,.i64 (sqE (blkA f b) ((v:Nat):Int) st (nedA f b v) (behA f b v)).2.1],.bool (sqE (blkA f b) ((v:Nat):Int) st (nedA f b v) (behA f b v)).2.2]):=by
 have hx:=blkS_of hC hf hb
 have hlm:=hx.i
 have hvl:=hC.e.siz.values
 have hl40:(blkA f b).Instrs.length≤40:=hC.e.siz.instrs b hb
 have hh1:=c_Has (k:=kk) (v:=v) (nedA f b) (by subst hk; show _<(f.Values.length+63) / 64; omega) (by omega)
 have hh2:=c_Has (k:=kk) (v:=v) (behA f b) (by subst hk; show _<(f.Values.length+63) / 64; omega) (by omega)
 have u1:IntKind.i64.wrap (st+1)=st+1:=wrap_in (by omega) (by omega)
 have u2:IntKind.i64.wrap (st+2)=st+2:=wrap_in (by omega) (by omega)
 refine ACallIs.enter B _ _ Tryz.func41 rfl rfl Tryz.ntmps41 Tryz.results41 rfl fun _=>?_
 repeat (first|apply zq|apply zb|apply zk)
 apply zr;intro _
 repeat (first|apply zq|apply zb|apply zk)
 apply zr
 repeat' (first|exact zt|apply zi|fail)
 all_goals first|exact fun _=>nn hb|skip
 intro _
 refine AWp.freezeObj 10 rfl rfl ?_
 repeat (first|apply zq|apply zb|apply zk)
 apply zr;intro _
 repeat (first|apply zq|apply zb|apply zk)
 apply zr
 repeat' (first|exact zt|apply zi|refine CallX.pure hh1 rfl rfl rfl ?_|refine CallK.intro (fun _=>c_ContainsZ (blkA f b).Params ((v:Nat):Int) hx.p) ?_|fail)
 all_goals first|exact fun _=>nn hb|exact fun h=>h|exact gT|exact gF|exact gN|exact gA|skip
 intro _
 repeat (first|apply zq|apply zb|apply zk)
 apply zr;intro _
 repeat (first|apply zq|apply zb|apply zk)
 refine AWp.mono (Q:=fun e t=>e=.normal∧Sub ⟨[(0,.ptr (ndC f kk)),(1,.i64 b),(2,.i64 v),(3,.i64 st),(8,.obj 8 0),(10,.ptr (blkA f b).cells),(11,.obj 11 0),(12,.bool (sq0 (blkA f b) ((v:Nat):Int) st (nedA f b v)).2.2)],[(8,.cells [.i64 0,.i64 0]),(11,.cells [.i64 (sq0 (blkA f b) ((v:Nat):Int) st (nedA f b v)).1,.i64 (sq0 (blkA f b) ((v:Nat):Int) st (nedA f b v)).2.1])]⟩ t) ?_ ?_
 ·repeat (first|apply zq|apply zb|apply zk)
  apply AWp.cond;apply zi<;>intro h1
  ·have h1:(bif nedA f b v then true else decide (((v:Nat):Int)∈(blkA f b).Params))=true:=h1
   have hE:(sq0 (blkA f b) ((v:Nat):Int) st (nedA f b v))=(st,st+1,true):=by unfold sq0; rw [show (nedA f b v||decide (((v:Nat):Int)∈(blkA f b).Params))=true by revert h1; cases nedA f b v<;>simp]; rfl
   rw [hE]
   repeat (first|apply zq|apply zb|apply zk)
   apply zr
   repeat' (first|exact zt|apply zi|fail)
   intro _
   refine zi rfl ?_
   refine zi ?_ (zi rfl (zi ?_ (zi (congrArg (fun z=>some (HO.cells [.i64 st,.i64 z])) u1) (zi ?_ zt))))
   all_goals repeat' (first|exact rfl|exact zt|exact congrArg (fun z=>some (AV.bool z)) h1|apply zi)
  ·have h1:(bif nedA f b v then true else decide (((v:Nat):Int)∈(blkA f b).Params))=false:=h1
   have hE:(sq0 (blkA f b) ((v:Nat):Int) st (nedA f b v))=(0,0,false):=by unfold sq0; rw [show (nedA f b v||decide (((v:Nat):Int)∈(blkA f b).Params))=false by revert h1; cases nedA f b v<;>simp]; rfl
   rw [hE]
   refine AWp.skip ?_
   refine zi rfl ?_
   refine zi ?_ (zi (rfl) (zi ?_ (zi (rfl) (zi ?_ (zt)))))
   all_goals repeat' (first|exact rfl|exact zt|exact congrArg (fun z=>some (AV.bool z)) h1|apply zi)
 rintro _ _ ⟨rfl,hs⟩
 refine AWp.weaken hs ?_
 repeat (first|apply zq|apply zb|apply zk)
 apply zr;intro _
 repeat (first|apply zq|apply zb|apply zk)
 refine AWp.loop (fun i:Nat=>⟨[(0,.ptr (ndC f kk)),(1,.i64 b),(2,.i64 v),(3,.i64 st),(8,.obj 8 0),(10,.ptr (blkA f b).cells),(11,.obj 11 0),(12,.bool (sqI (blkA f b) ((v:Nat):Int) st (sq0 (blkA f b) ((v:Nat):Int) st (nedA f b v)) i).2.2),(47,roL 3 Ins.cells (blkA f b).Instrs),(48,.i64 (blkA f b).Instrs.length),(49,.i64 i)],[(8,.cells [.i64 0,.i64 0]),(11,.cells [.i64 (sqI (blkA f b) ((v:Nat):Int) st (sq0 (blkA f b) ((v:Nat):Int) st (nedA f b v)) i).1,.i64 (sqI (blkA f b) ((v:Nat):Int) st (sq0 (blkA f b) ((v:Nat):Int) st (nedA f b v)) i).2.1])]⟩) (fun i=>i≤(blkA f b).Instrs.length) (fun i=>(blkA f b).Instrs.length - i) 0 (Nat.zero_le _) ?_ ?_
 ·refine zi ?_ (zi (rfl) (zi ?_ (zi (rfl) (zi ?_ (zt)))))
  all_goals repeat' (first|exact rfl|exact zt|apply zi)
 intro i hi0
 repeat (first|apply zq|apply zb|apply zk)
 apply zr;intro _
 repeat (first|apply zq|apply zb|apply zk)
 apply AWp.cond;apply zi<;>intro h2
 ·have hi:i<(blkA f b).Instrs.length:=zd h2
  have hom:=hx.o i hi
  have w1:IntKind.i64.wrap (2 * (i:Int))=2 * (i:Int):=wrap_in (by omega) (by omega)
  have w2:IntKind.i64.wrap (st+1+2 * (i:Int))=st+1+2 * (i:Int):=wrap_in (by omega) (by omega)
  have w3:IntKind.i64.wrap (st+1+2 * (i:Int)+1)=st+1+2 * (i:Int)+1:=wrap_in (by omega) (by omega)
  have w4:IntKind.i64.wrap (st+1+2 * (i:Int)+2)=st+1+2 * (i:Int)+2:=wrap_in (by omega) (by omega)
  repeat (first|apply zq|apply zb|apply zk)
  apply zr
  repeat' (first|exact zt|apply zi|fail)
  all_goals first|exact fun _=>nn hi|skip
  intro _
  refine AWp.freezeObj 14 rfl rfl ?_
  repeat (first|apply zq|apply zb|apply zk)
  apply zr;intro _
  repeat (first|apply zq|apply zb|apply zk)
  apply zr;intro _
  repeat (first|apply zq|apply zb|apply zk)
  refine AWp.loop (fun k:Nat=>⟨[(0,.ptr (ndC f kk)),(1,.i64 b),(2,.i64 v),(3,.i64 st),(8,.obj 8 0),(10,.ptr (blkA f b).cells),(11,.obj 11 0),(12,.bool (sqO ((blkA f b).Instrs.getD i default) ((v:Nat):Int) st i (sqI (blkA f b) ((v:Nat):Int) st (sq0 (blkA f b) ((v:Nat):Int) st (nedA f b v)) i) k).2.2),(15,.i64 (st+1+2 * (i:Int))),(47,roL 3 Ins.cells (blkA f b).Instrs),(48,.i64 (blkA f b).Instrs.length),(49,.i64 i),(60,roL 5 Opd.cells ((blkA f b).Instrs.getD i default).Operands),(61,.i64 ((blkA f b).Instrs.getD i default).Operands.length),(62,.i64 k)],[(8,.cells [.i64 0,.i64 0]),(11,.cells [.i64 (sqO ((blkA f b).Instrs.getD i default) ((v:Nat):Int) st i (sqI (blkA f b) ((v:Nat):Int) st (sq0 (blkA f b) ((v:Nat):Int) st (nedA f b v)) i) k).1,.i64 (sqO ((blkA f b).Instrs.getD i default) ((v:Nat):Int) st i (sqI (blkA f b) ((v:Nat):Int) st (sq0 (blkA f b) ((v:Nat):Int) st (nedA f b v)) i) k).2.1])]⟩) (fun k=>k≤((blkA f b).Instrs.getD i default).Operands.length) (fun k=>((blkA f b).Instrs.getD i default).Operands.length - k) 0 (Nat.zero_le _) ?_ ?_
  ·refine zi ?_ (zi (rfl) (zi ?_ (zi (rfl) (zi ?_ (zt)))))
   all_goals repeat' (first|exact rfl|exact zt|exact congrArg (fun z=>some (AV.i64 z)) (show st+1+2 * (i:Int)=IntKind.i64.wrap (IntKind.i64.wrap (st+1)+IntKind.i64.wrap (2 * (i:Int))) by rw [u1,w1,w2])|exact congrArg (fun z=>some (AV.i64 z)) (show IntKind.i64.wrap (IntKind.i64.wrap (st+1)+IntKind.i64.wrap (2 * (i:Int)))=st+1+2 * (i:Int) by rw [u1,w1,w2])|apply zi)
  intro k hk0
  repeat (first|apply zq|apply zb|apply zk)
  apply zr;intro _
  repeat (first|apply zq|apply zb|apply zk)
  apply AWp.cond;apply zi<;>intro h3
  ·have hk:k<((blkA f b).Instrs.getD i default).Operands.length:=zd h3
   refine AWp.skip ?_
   refine AWp.seq ?_
   refine AWp.mono (Q:=fun e t=>e=.normal∧Sub ⟨[(0,.ptr (ndC f kk)),(1,.i64 b),(2,.i64 v),(3,.i64 st),(8,.obj 8 0),(10,.ptr (blkA f b).cells),(11,.obj 11 0),(12,.bool (sqP (st+1+2 * (i:Int)) ((v:Nat):Int) (((blkA f b).Instrs.getD i default).Operands.getD k default) (sqO ((blkA f b).Instrs.getD i default) ((v:Nat):Int) st i (sqI (blkA f b) ((v:Nat):Int) st (sq0 (blkA f b) ((v:Nat):Int) st (nedA f b v)) i) k)).2.2),(15,.i64 (st+1+2 * (i:Int))),(47,roL 3 Ins.cells (blkA f b).Instrs),(48,.i64 (blkA f b).Instrs.length),(49,.i64 i),(60,roL 5 Opd.cells ((blkA f b).Instrs.getD i default).Operands),(61,.i64 ((blkA f b).Instrs.getD i default).Operands.length),(62,.i64 k)],[(8,.cells [.i64 0,.i64 0]),(11,.cells [.i64 (sqP (st+1+2 * (i:Int)) ((v:Nat):Int) (((blkA f b).Instrs.getD i default).Operands.getD k default) (sqO ((blkA f b).Instrs.getD i default) ((v:Nat):Int) st i (sqI (blkA f b) ((v:Nat):Int) st (sq0 (blkA f b) ((v:Nat):Int) st (nedA f b v)) i) k)).1,.i64 (sqP (st+1+2 * (i:Int)) ((v:Nat):Int) (((blkA f b).Instrs.getD i default).Operands.getD k default) (sqO ((blkA f b).Instrs.getD i default) ((v:Nat):Int) st i (sqI (blkA f b) ((v:Nat):Int) st (sq0 (blkA f b) ((v:Nat):Int) st (nedA f b v)) i) k)).2.1])]⟩ t) ?_ ?_
   ·repeat (first|apply zq|apply zb|apply zk)
    apply zr
    repeat' (first|exact zt|apply zi|fail)
    all_goals first|exact fun _=>nn hk|skip
    intro _
    refine AWp.freezeObj 17 rfl rfl ?_
    repeat (first|apply zq|apply zb|apply zk)
    apply zr;intro _
    repeat (first|apply zq|apply zb|apply zk)
    apply AWp.cond;apply zi<;>intro h4
    ·have h4:¬ (((blkA f b).Instrs.getD i default).Operands.getD k default).Value=((v:Nat):Int):=by
      have h4:((((blkA f b).Instrs.getD i default).Operands.getD k default).Value != ((v:Nat):Int))=true:=h4
      simpa using h4
     refine AWp.skip ?_
     rw [sqP_no h4]
     refine zi rfl ?_
     refine zi ?_ (zi (rfl) (zi ?_ (zi (rfl) (zi ?_ (zt)))))
     all_goals repeat' (first|exact rfl|exact zt|apply zi)
    have h4:(((blkA f b).Instrs.getD i default).Operands.getD k default).Value=((v:Nat):Int):=by
     have h4:((((blkA f b).Instrs.getD i default).Operands.getD k default).Value != ((v:Nat):Int))=false:=h4
     simpa using h4
    repeat (first|apply zq|apply zb|apply zk)
    apply zr
    repeat' (first|exact zt|apply zi|fail)
    all_goals first|exact fun h=>h|exact gT|exact gF|exact gN|exact gA|skip
    intro _
    repeat (first|apply zq|apply zb|apply zk)
    apply AWp.cond;apply zi<;>intro h5
    ·have h5:(bif (((blkA f b).Instrs.getD i default).Operands.getD k default).Kind==2 then (((blkA f b).Instrs.getD i default).Operands.getD k default).Late else false)=true:=h5
     have h6:(((blkA f b).Instrs.getD i default).Operands.getD k default).Kind=2:=by
      cases hq:(((blkA f b).Instrs.getD i default).Operands.getD k default).Kind==2 with
      | true=>simpa using hq
      | false=>rw [hq] at h5; cases h5
     have h7:(((blkA f b).Instrs.getD i default).Operands.getD k default).Late=true:=by rw [h6] at h5; exact h5
     rw [sqP_dl h4 h6 h7]
     repeat (first|apply zq|apply zb|apply zk)
     apply zr
     repeat' (first|exact zt|apply zi|fail)
     intro _
     refine zi rfl ?_
     refine zi ?_ (zi rfl (zi ?_ (zi (show some (HO.cells [.i64 (IntKind.i64.wrap (st+1+2 * (i:Int)+1)),.i64 (IntKind.i64.wrap (st+1+2 * (i:Int)+2))])=some (HO.cells [.i64 (st+1+2 * (i:Int)+1),.i64 (st+1+2 * (i:Int)+2)]) by rw [w3,w4]) (zi ?_ zt))))
     all_goals repeat' (first|exact rfl|exact zt|apply zi)
    have h5:(bif (((blkA f b).Instrs.getD i default).Operands.getD k default).Kind==2 then (((blkA f b).Instrs.getD i default).Operands.getD k default).Late else false)=false:=h5
    repeat (first|apply zq|apply zb|apply zk)
    apply zr;intro _
    repeat (first|apply zq|apply zb|apply zk)
    apply AWp.cond;apply zi<;>intro h6
    ·have h6:(((blkA f b).Instrs.getD i default).Operands.getD k default).Kind=2:=by
      have h6:((((blkA f b).Instrs.getD i default).Operands.getD k default).Kind==2)=true:=h6
      simpa using h6
     have h7:(((blkA f b).Instrs.getD i default).Operands.getD k default).Late=false:=by rw [h6] at h5; exact h5
     rw [sqP_de h4 h6 h7]
     repeat (first|apply zq|apply zb|apply zk)
     apply zr
     repeat' (first|exact zt|apply zi|fail)
     intro _
     refine zi rfl ?_
     refine zi ?_ (zi rfl (zi ?_ (zi (show some (HO.cells [.i64 (st+1+2 * (i:Int)),.i64 (IntKind.i64.wrap (st+1+2 * (i:Int)+2))])=some (HO.cells [.i64 (st+1+2 * (i:Int)),.i64 (st+1+2 * (i:Int)+2)]) by rw [w4]) (zi ?_ zt))))
     all_goals repeat' (first|exact rfl|exact zt|apply zi)
    have h6:¬ (((blkA f b).Instrs.getD i default).Operands.getD k default).Kind=2:=by
     have h6:((((blkA f b).Instrs.getD i default).Operands.getD k default).Kind==2)=false:=h6
     simpa using h6
    repeat (first|apply zq|apply zb|apply zk)
    apply zr;intro _
    repeat (first|apply zq|apply zb|apply zk)
    apply AWp.cond;apply zi<;>intro h7
    ·have h7:(((blkA f b).Instrs.getD i default).Operands.getD k default).Late=true:=h7
     rw [sqP_ul h4 h6 h7]
     repeat (first|apply zq|apply zb|apply zk)
     apply zr
     repeat' (first|exact zt|apply zi|fail)
     intro _
     refine zi rfl ?_
     refine zi ?_ (zi rfl (zi ?_ (zi (show some (HO.cells [.i64 (sqO ((blkA f b).Instrs.getD i default) ((v:Nat):Int) st i (sqI (blkA f b) ((v:Nat):Int) st (sq0 (blkA f b) ((v:Nat):Int) st (nedA f b v)) i) k).1,.i64 (max (sqO ((blkA f b).Instrs.getD i default) ((v:Nat):Int) st i (sqI (blkA f b) ((v:Nat):Int) st (sq0 (blkA f b) ((v:Nat):Int) st (nedA f b v)) i) k).2.1 (IntKind.i64.wrap (st+1+2 * (i:Int)+2)))])=some (HO.cells [.i64 (sqO ((blkA f b).Instrs.getD i default) ((v:Nat):Int) st i (sqI (blkA f b) ((v:Nat):Int) st (sq0 (blkA f b) ((v:Nat):Int) st (nedA f b v)) i) k).1,.i64 (max (sqO ((blkA f b).Instrs.getD i default) ((v:Nat):Int) st i (sqI (blkA f b) ((v:Nat):Int) st (sq0 (blkA f b) ((v:Nat):Int) st (nedA f b v)) i) k).2.1 (st+1+2 * (i:Int)+2))]) by rw [w4]) (zi ?_ zt))))
     all_goals repeat' (first|exact rfl|exact zt|apply zi)
    ·have h7:(((blkA f b).Instrs.getD i default).Operands.getD k default).Late=false:=h7
     rw [sqP_ue h4 h6 h7]
     repeat (first|apply zq|apply zb|apply zk)
     apply zr
     repeat' (first|exact zt|apply zi|fail)
     intro _
     refine zi rfl ?_
     refine zi ?_ (zi rfl (zi ?_ (zi (show some (HO.cells [.i64 (sqO ((blkA f b).Instrs.getD i default) ((v:Nat):Int) st i (sqI (blkA f b) ((v:Nat):Int) st (sq0 (blkA f b) ((v:Nat):Int) st (nedA f b v)) i) k).1,.i64 (max (sqO ((blkA f b).Instrs.getD i default) ((v:Nat):Int) st i (sqI (blkA f b) ((v:Nat):Int) st (sq0 (blkA f b) ((v:Nat):Int) st (nedA f b v)) i) k).2.1 (IntKind.i64.wrap (st+1+2 * (i:Int)+1)))])=some (HO.cells [.i64 (sqO ((blkA f b).Instrs.getD i default) ((v:Nat):Int) st i (sqI (blkA f b) ((v:Nat):Int) st (sq0 (blkA f b) ((v:Nat):Int) st (nedA f b v)) i) k).1,.i64 (max (sqO ((blkA f b).Instrs.getD i default) ((v:Nat):Int) st i (sqI (blkA f b) ((v:Nat):Int) st (sq0 (blkA f b) ((v:Nat):Int) st (nedA f b v)) i) k).2.1 (st+1+2 * (i:Int)+1))]) by rw [w3]) (zi ?_ zt))))
     all_goals repeat' (first|exact rfl|exact zt|apply zi)
   rintro _ _ ⟨rfl,hs1⟩
   refine AWp.weaken hs1 ?_
   repeat (first|apply zq|apply zb|apply zk)
   apply zr;intro _
   refine round_end (k+1) hk ?_ (by omega)
   refine zi ?_ (zi (rfl) (zi ?_ (zi (rfl) (zi ?_ (zt)))))
   all_goals repeat' (first|exact rfl|exact zt|exact zw hk hom|apply zi)
  ·have hk3:¬ (k:Int)<((blkA f b).Instrs.getD i default).Operands.length:=of_decide_eq_false h3
   obtain rfl:k=((blkA f b).Instrs.getD i default).Operands.length:=by omega
   apply ze
   repeat (first|apply zq|apply zb|apply zk)
   apply zr;intro _
   refine round_end (i+1) hi ?_ (by omega)
   refine zi ?_ (zi (rfl) (zi ?_ (zi (rfl) (zi ?_ (zt)))))
   all_goals repeat' (first|exact rfl|exact zt|exact zw hi hlm|apply zi)
 ·have hi3:¬ (i:Int)<(blkA f b).Instrs.length:=of_decide_eq_false h2
  obtain rfl:i=(blkA f b).Instrs.length:=by omega
  have w1:IntKind.i64.wrap (2 * ((blkA f b).Instrs.length:Int))=2 * ((blkA f b).Instrs.length:Int):=wrap_in (by omega) (by omega)
  have w2:IntKind.i64.wrap (st+2+2 * ((blkA f b).Instrs.length:Int))=st+2+2 * ((blkA f b).Instrs.length:Int):=wrap_in (by omega) (by omega)
  apply ze
  repeat (first|apply zq|apply zb|apply zk)
  apply zr
  repeat' (first|exact zt|apply zi|refine CallX.pure hh2 rfl rfl rfl ?_|fail)
  all_goals first|exact fun _=>nn hb|skip
  intro _
  repeat (first|apply zq|apply zb|apply zk)
  refine AWp.mono (Q:=fun e t=>e=.normal∧Sub ⟨[(8,.obj 8 0),(11,.obj 11 0),(12,.bool (sqE (blkA f b) ((v:Nat):Int) st (nedA f b v) (behA f b v)).2.2)],[(8,.cells [.i64 0,.i64 0]),(11,.cells [.i64 (sqE (blkA f b) ((v:Nat):Int) st (nedA f b v) (behA f b v)).1,.i64 (sqE (blkA f b) ((v:Nat):Int) st (nedA f b v) (behA f b v)).2.1])]⟩ t) ?_ ?_
  ·repeat (first|apply zq|apply zb|apply zk)
   apply AWp.cond;apply zi<;>intro h8
   ·have h8:behA f b v=true:=h8
    have hE:(sqE (blkA f b) ((v:Nat):Int) st (nedA f b v) (behA f b v))=((sqI (blkA f b) ((v:Nat):Int) st (sq0 (blkA f b) ((v:Nat):Int) st (nedA f b v)) (blkA f b).Instrs.length).1,st+2+2 * ((blkA f b).Instrs.length:Int),(sqI (blkA f b) ((v:Nat):Int) st (sq0 (blkA f b) ((v:Nat):Int) st (nedA f b v)) (blkA f b).Instrs.length).2.2):=by unfold sqE; rw [h8]; rfl
    rw [hE]
    repeat (first|apply zq|apply zb|apply zk)
    apply zr
    repeat' (first|exact zt|apply zi|fail)
    intro _
    refine zi rfl ?_
    refine zi ?_ (zi rfl (zi ?_ (zi (show some (HO.cells [.i64 (sqI (blkA f b) ((v:Nat):Int) st (sq0 (blkA f b) ((v:Nat):Int) st (nedA f b v)) (blkA f b).Instrs.length).1,.i64 (IntKind.i64.wrap (IntKind.i64.wrap (st+2)+IntKind.i64.wrap (2 * ((blkA f b).Instrs.length:Int))))])=some (HO.cells [.i64 (sqI (blkA f b) ((v:Nat):Int) st (sq0 (blkA f b) ((v:Nat):Int) st (nedA f b v)) (blkA f b).Instrs.length).1,.i64 (st+2+2 * ((blkA f b).Instrs.length:Int))]) by rw [u2,w1,w2]) (zi ?_ zt))))
    all_goals repeat' (first|exact rfl|exact zt|apply zi)
   ·have h8:behA f b v=false:=h8
    have hE:(sqE (blkA f b) ((v:Nat):Int) st (nedA f b v) (behA f b v))=(sqI (blkA f b) ((v:Nat):Int) st (sq0 (blkA f b) ((v:Nat):Int) st (nedA f b v)) (blkA f b).Instrs.length):=by unfold sqE; rw [h8]; rfl
    rw [hE]
    refine AWp.skip ?_
    refine zi rfl ?_
    refine zi ?_ (zi (rfl) (zi ?_ (zi (rfl) (zi ?_ (zt)))))
    all_goals repeat' (first|exact rfl|exact zt|apply zi)
  rintro _ _ ⟨rfl,hs4⟩
  refine AWp.weaken hs4 ?_
  repeat (first|apply zq|apply zb|apply zk)
  apply zr;intro _
  refine AWp.ret ⟨Or.inl rfl,rfl,?_⟩
  intro _
  rfl
def SpR (st:Int) (s:Int×Int×Bool) (p:Int×Int):Prop:=(s.2.2=true∧0≤p.1∧p.1≤p.2∧s.1=st+p.1∧s.2.1=st+p.2+1)∨(s.2.2=false∧p.1 = -1)
theorem SpR.step {st v:Int} {i:Nat} {o:Opd} {s:Int×Int×Bool} {p:Int×Int} (hk:o.Kind=1∨o.Kind=2) (h:SpR st s p):SpR st (sqP (st+1+2 * (i:Int)) v o s) (spnP v i o p):=by
 obtain ⟨p1,p2⟩:=p
 obtain ⟨s1,s2,s3⟩:=s
 unfold SpR sqP spnP spnK pntF at *
 simp only at h ⊢
 rcases hk with hk|hk<;>grind
theorem SpR.opers {st v:Int} {i:Nat} {x:Ins} (hk:∀ k,k<x.Operands.length→(x.Operands.getD k default).Kind=1∨(x.Operands.getD k default).Kind=2) {s:Int×Int×Bool} {p:Int×Int} (h:SpR st s p):∀ k,k≤x.Operands.length→SpR st (sqO x v st i s k) (spnO x v i p k)
 | 0,_=>h
 | k+1,hq=>(SpR.opers hk h k (by omega)).step (hk k (by omega))
theorem SpR.instrs {st v:Int} {x:Blk} (hk:∀ i k,i<x.Instrs.length→k<(x.Instrs.getD i default).Operands.length→((x.Instrs.getD i default).Operands.getD k default).Kind=1∨((x.Instrs.getD i default).Operands.getD k default).Kind=2) {s:Int×Int×Bool} {p:Int×Int} (h:SpR st s p):∀ i,i≤x.Instrs.length→SpR st (sqI x v st s i) (spnI x v p i)
 | 0,_=>h
 | i+1,hq=>(SpR.instrs hk h i (by omega)).opers (fun k hk'=>hk i k (by omega) hk') _ (Nat.le_refl _)
theorem spnP_le {v:Int} {i n:Nat} {o:Opd} {p:Int×Int} (hi:i<n) (h:p.2≤2 * (n:Int)):(spnP v i o p).2≤2 * (n:Int):=by
 obtain ⟨p1,p2⟩:=p
 unfold spnP spnK pntF
 simp only at h ⊢
 grind
theorem spnO_le {v:Int} {i n:Nat} {x:Ins} {p:Int×Int} (hi:i<n) (h:p.2≤2 * (n:Int)):∀ k,(spnO x v i p k).2≤2 * (n:Int)
 | 0=>h
 | k+1=>spnP_le hi (spnO_le hi h k)
theorem spnI_le {v:Int} {n:Nat} {x:Blk} {p:Int×Int} (h:p.2≤2 * (n:Int)):∀ i,i≤n→(spnI x v p i).2≤2 * (n:Int)
 | 0,_=>h
 | i+1,hi=>spnO_le (by omega) (spnI_le h i (by omega)) _
noncomputable def sgF (f:Fun) (v:Int) (b:Nat):Int×Int:=spnE (blkA f b) v (nedB f v b) (behB f v b)
theorem sgF_R {f:Fun} (hk:∀ b i k,b<f.Blocks.length→i<(blkA f b).Instrs.length→k<((blkA f b).Instrs.getD i default).Operands.length→(((blkA f b).Instrs.getD i default).Operands.getD k default).Kind=1∨(((blkA f b).Instrs.getD i default).Operands.getD k default).Kind=2) {b v:Nat} (hb:b<f.Blocks.length) (hv:v<f.Values.length) (st:Int) :
  SpR st (sqE (blkA f b) (v:Int) st (nedA f b v) (behA f b v)) (sgF f v b)∧(sgF f v b).2≤1+2 * ((blkA f b).Instrs.length:Int)∧((sgF f v b).1 = -1∨0≤(sgF f v b).1):=by
 have e1:nedA f b v=nedB f (v:Int) b:=by unfold nedA; rw [decide_eq_true hv,Bool.true_and]
 have e2:behA f b v=behB f (v:Int) b:=by unfold behA; rw [decide_eq_true hv,Bool.true_and]
 rw [e1,e2]
 have h0:SpR st (sq0 (blkA f b) (v:Int) st (nedB f (v:Int) b)) (spn0 (blkA f b) (v:Int) (nedB f (v:Int) b),spn0 (blkA f b) (v:Int) (nedB f (v:Int) b)):=by
  unfold sq0 spn0 SpR
  cases nedB f (v:Int) b||decide ((v:Int)∈(blkA f b).Params)<;>simp
 have h1:=h0.instrs (v:=(v:Int)) (fun i k hi hk'=>hk b i k hb hi hk') _ (Nat.le_refl _)
 have h2:(spnI (blkA f b) (v:Int) (spn0 (blkA f b) (v:Int) (nedB f (v:Int) b),spn0 (blkA f b) (v:Int) (nedB f (v:Int) b)) (blkA f b).Instrs.length).2≤2 * ((blkA f b).Instrs.length:Int):=by
  refine spnI_le ?_ _ (Nat.le_refl _)
  unfold spn0
  cases nedB f (v:Int) b||decide ((v:Int)∈(blkA f b).Params)<;>simp<;>omega
 unfold sgF sqE spnE
 generalize sqI (blkA f b) (v:Int) st (sq0 (blkA f b) (v:Int) st (nedB f (v:Int) b)) (blkA f b).Instrs.length=s at *
 generalize spnI (blkA f b) (v:Int) (spn0 (blkA f b) (v:Int) (nedB f (v:Int) b),spn0 (blkA f b) (v:Int) (nedB f (v:Int) b)) (blkA f b).Instrs.length=p at *
 obtain ⟨p1,p2⟩:=p
 obtain ⟨s1,s2,s3⟩:=s
 unfold SpR at *
 simp only at h1 h2 ⊢
 cases behB f (v:Int) b<;>simp only [cond_true,cond_false]<;>grind
def mgL (L:List (Int×Int)) (p:Int×Int):List (Int×Int):=match L.getLast? with
 | some q=>if q.2=p.1 then L.dropLast++[(q.1,p.2)] else L++[p]
 | none=>[p]
noncomputable def spL (f:Fun) (v:Int):Nat→List (Int×Int)
 | 0=>[]
 | b+1=>if 0≤(sgF f v b).1 then mgL (spL f v b) (startF f.Blocks b+(sgF f v b).1,startF f.Blocks b+(sgF f v b).2+1) else spL f v b
section
variable {L : List (Int × Int)} {p q : Int × Int}
theorem mgL_app (h:∀ q,L.getLast? = some q→q.2≠p.1):mgL L p=L++[p]:=by
 unfold mgL
 cases hl:L.getLast? with
 | none=>simp only; rw [List.getLast?_eq_none_iff.1 hl]; rfl
 | some q=>simp only; rw [if_neg (h q hl)]
theorem mgL_mrg (h:L.getLast? = some q) (e:q.2=p.1):mgL L p=L.dropLast++[(q.1,p.2)]:=by
 unfold mgL
 rw [h]; simp only; rw [if_pos e]
theorem mgL_last:∃ r,(mgL L p).getLast? = some (r,p.2):=by
 unfold mgL
 cases hl:L.getLast? with
 | none=>exact ⟨p.1,rfl⟩
 | some q =>
  simp only
  split
  ·exact ⟨q.1,by simp⟩
  ·exact ⟨p.1,by simp⟩
theorem mgL_len:(mgL L p).length≤L.length+1:=by
 unfold mgL
 cases hl:L.getLast? with
 | none=>simp
 | some q =>
  simp only
  split<;>simp
def setT (L:List (Int×Int)) (t:Int):List (Int×Int):=L.set (L.length - 1) ((L.getD (L.length - 1) default).1,t)
theorem setT_snoc {L:List (Int×Int)} {q:Int×Int} {t:Int}:setT (L++[q]) t=L++[(q.1,t)]:=by
 unfold setT
 simp [List.getD_eq_getElem?_getD]
theorem setT_mg {t:Int}:setT (mgL L p) t=mgL L (p.1,t):=by
 unfold mgL
 cases hl:L.getLast? with
 | none=>exact setT_snoc (L:=[])
 | some q =>
  simp only
  split
  ·exact setT_snoc
  ·exact setT_snoc
theorem setT_mrg {t:Int} (h:L.getLast? = some q):setT L t=L.dropLast++[(q.1,t)]:=by
 obtain ⟨K,e⟩:∃ K,L=K++[q]:=⟨L.dropLast,by
  have h1:L≠[]:=fun e=>by rw [e] at h; cases h
  have h2:L.getLast h1=q:=by rw [List.getLast?_eq_some_getLast h1] at h; injection h
  rw [← h2]; exact (List.dropLast_concat_getLast h1).symm⟩
 subst e
 rw [setT_snoc]; simp
end
noncomputable def oB (f:Fun) (v:Int):Nat→Bool
 | 0=>false
 | b+1=>decide (0≤(sgF f v b).1∧(sgF f v b).2=1+2 * ((blkA f b).Instrs.length:Int))
noncomputable def lA (f:Fun) (v:Int) (b a:Nat):List (Int×Int):=if 0≤(sgF f v b).1∧(sgF f v b).1<a then mgL (spL f v b) (startF f.Blocks b+(sgF f v b).1,startF f.Blocks b+min ((sgF f v b).2+1) a) else spL f v b
noncomputable def oA (f:Fun) (v:Int) (b:Nat):Nat→Bool
 | 0=>oB f v b
 | a+1=>decide (0≤(sgF f v b).1)&&inB a (sgF f v b).1 (sgF f v b).2
structure SgK (f:Fun) (v:Int) (b:Nat):Prop where
 le:0≤(sgF f v b).1→(sgF f v b).1≤(sgF f v b).2
 hi:(sgF f v b).2≤1+2 * ((blkA f b).Instrs.length:Int)
structure SpI (f:Fun) (v:Int) (b:Nat):Prop where
 no:(spL f v b).getLast? = none→oB f v b=false
 le:∀ q,(spL f v b).getLast? = some q→q.2≤startF f.Blocks b
 eq:∀ q,(spL f v b).getLast? = some q→(q.2=startF f.Blocks b↔oB f v b=true)
 len:(spL f v b).length≤b
section
variable {f : Fun} {v : Int} {b a : Nat}
theorem SpI.zero:SpI f v 0:=⟨fun _=>rfl,(fun q h=>by cases h),(fun q h=>by cases h),Nat.le_refl _⟩
theorem SpI.succ (h:SpI f v b) (k:SgK f v b) (hs:startF f.Blocks (b+1)=startF f.Blocks b+2+2 * ((blkA f b).Instrs.length:Int)):SpI f v (b+1):=by
 have hk1:=k.hi
 have e:spL f v (b+1)=if 0≤(sgF f v b).1 then mgL (spL f v b) (startF f.Blocks b+(sgF f v b).1,startF f.Blocks b+(sgF f v b).2+1) else spL f v b:=rfl
 have eo:oB f v (b+1)=decide (0≤(sgF f v b).1∧(sgF f v b).2=1+2 * ((blkA f b).Instrs.length:Int)):=rfl
 by_cases g:0≤(sgF f v b).1
 ·rw [if_pos g] at e
  obtain ⟨r,hr⟩:=mgL_last (L:=spL f v b) (p:=(startF f.Blocks b+(sgF f v b).1,startF f.Blocks b+(sgF f v b).2+1))
  rw [← e] at hr
  refine ⟨fun hn=>(by rw [hr] at hn; cases hn),fun q hq=>?_,fun q hq=>?_,?_⟩
  ·rw [hr] at hq; injection hq with hq; subst hq
   show startF f.Blocks b+(sgF f v b).2+1≤_; omega
  ·rw [hr] at hq; injection hq with hq; subst hq
   rw [eo,decide_eq_true_iff,hs]
   show startF f.Blocks b+(sgF f v b).2+1=_↔_
   constructor
   ·intro hh; exact ⟨g,by omega⟩
   ·intro hh; omega
  ·rw [e]
   have:=mgL_len (L:=spL f v b) (p:=(startF f.Blocks b+(sgF f v b).1,startF f.Blocks b+(sgF f v b).2+1))
   have:=h.len
   omega
 ·rw [if_neg g] at e
  have eo:oB f v (b+1)=false:=by rw [eo,decide_eq_false_iff_not]; exact fun hh=>g hh.1
  refine ⟨fun _=>eo,fun q hq=>?_,fun q hq=>?_,?_⟩
  ·rw [e] at hq; have:=h.le q hq; omega
  ·rw [e] at hq; have:=h.le q hq
   rw [eo]
   exact ⟨fun hh=>by omega,fun hh=>by cases hh⟩
  ·rw [e]; have:=h.len; omega
theorem lA_zero:lA f v b 0=spL f v b:=if_neg fun h=>by have:=h.1; have:=h.2; omega
theorem lA_end (k:SgK f v b) {n:Nat} (hn:n=2+2 * (blkA f b).Instrs.length):lA f v b n=spL f v (b+1)∧oA f v b n=oB f v (b+1):=by
 have hk1:=k.hi
 obtain ⟨n',rfl⟩:∃ n',n=n'+1:=⟨n - 1,by omega⟩
 constructor
 ·show (if _ then _ else _)=if _ then _ else _
  by_cases g:0≤(sgF f v b).1
  ·have:=k.le g
   rw [if_pos g,if_pos ⟨g,by omega⟩,show min ((sgF f v b).2+1) ((n'+1:Nat):Int)=(sgF f v b).2+1 by omega,Int.add_assoc]
  ·rw [if_neg g,if_neg (fun h=>g h.1)]
 ·show (decide (0≤(sgF f v b).1)&&inB n' (sgF f v b).1 (sgF f v b).2)=decide _
  unfold inB
  rw [Bool.eq_iff_iff]
  simp only [Bool.and_eq_true,decide_eq_true_eq]
  constructor
  ·rintro ⟨h1,h2,h3⟩; exact ⟨h1,by omega⟩
  ·rintro ⟨h1,h2⟩; have:=k.le h1; exact ⟨h1,by omega,by omega⟩
theorem lA_new (h:SpI f v b) (h1:oA f v b (a+1)=true) (h2:oA f v b a=false):lA f v b (a+1)=lA f v b a++[(startF f.Blocks b+(a:Int),startF f.Blocks b+(a:Int)+1)]:=by
 have h1:(decide (0≤(sgF f v b).1)&&inB a (sgF f v b).1 (sgF f v b).2)=true:=h1
 unfold inB at h1
 simp only [Bool.and_eq_true,decide_eq_true_eq] at h1
 obtain ⟨g1,g2,g3⟩:=h1
 have g4:(sgF f v b).1=a:=by
  cases a with
  | zero=>omega
  | succ a =>
   have h2:(decide (0≤(sgF f v b).1)&&inB a (sgF f v b).1 (sgF f v b).2)=false:=h2
   unfold inB at h2
   refine Classical.byContradiction fun hne=>?_
   rw [decide_eq_true g1,decide_eq_true (show (sgF f v b).1≤(a:Int) by omega),decide_eq_true (show (a:Int)≤(sgF f v b).2 by omega)] at h2
   cases h2
 have e1:lA f v b a=spL f v b:=if_neg fun hh=>by have:=hh.2; omega
 have e2:lA f v b (a+1)=mgL (spL f v b) (startF f.Blocks b+(sgF f v b).1,startF f.Blocks b+min ((sgF f v b).2+1) ((a+1:Nat):Int)):=if_pos ⟨g1,by omega⟩
 rw [e1,e2,show min ((sgF f v b).2+1) ((a+1:Nat):Int)=(a:Int)+1 by omega,g4,← Int.add_assoc]
 refine mgL_app fun q hq=>?_
 have q1:=h.le q hq
 have q2:=h.eq q hq
 show q.2≠startF f.Blocks b+(a:Int)
 intro e
 cases a with
 | zero =>
  have h2:oB f v b=false:=h2
  rw [h2] at q2
  exact absurd (q2.1 (by omega)) (by simp)
 | succ a=>omega
theorem lA_on (h:SpI f v b) (h1:oA f v b (a+1)=true) (h2:oA f v b a=true):lA f v b (a+1)=setT (lA f v b a) (startF f.Blocks b+(a:Int)+1)∧0<(lA f v b a).length:=by
 have h1:(decide (0≤(sgF f v b).1)&&inB a (sgF f v b).1 (sgF f v b).2)=true:=h1
 unfold inB at h1
 simp only [Bool.and_eq_true,decide_eq_true_eq] at h1
 obtain ⟨g1,g2,g3⟩:=h1
 have e2:lA f v b (a+1)=mgL (spL f v b) (startF f.Blocks b+(sgF f v b).1,startF f.Blocks b+min ((sgF f v b).2+1) ((a+1:Nat):Int)):=if_pos ⟨g1,by omega⟩
 cases a with
 | zero =>
  have h2:oB f v b=true:=h2
  cases hl:(spL f v b).getLast? with
  | none=>rw [h.no hl] at h2; cases h2
  | some q =>
   have q2:=(h.eq q hl).2 h2
   rw [lA_zero,e2,show min ((sgF f v b).2+1) ((0+1:Nat):Int)=1 by omega,setT_mrg hl,mgL_mrg hl (by show q.2=startF f.Blocks b+(sgF f v b).1; omega)]
   refine ⟨?_,?_⟩
   ·show _++[(q.1,startF f.Blocks b+1)]=_++[(q.1,startF f.Blocks b+((0:Nat):Int)+1)]
    rw [show startF f.Blocks b+((0:Nat):Int)+1=startF f.Blocks b+1 by omega]
   ·refine Nat.pos_of_ne_zero fun e=>?_
    rw [List.length_eq_zero_iff] at e
    rw [e] at hl; cases hl
 | succ a =>
  have h2:(decide (0≤(sgF f v b).1)&&inB a (sgF f v b).1 (sgF f v b).2)=true:=h2
  unfold inB at h2
  simp only [Bool.and_eq_true,decide_eq_true_eq] at h2
  obtain ⟨_,k2,k3⟩:=h2
  have e1:lA f v b (a+1)=mgL (spL f v b) (startF f.Blocks b+(sgF f v b).1,startF f.Blocks b+min ((sgF f v b).2+1) ((a+1:Nat):Int)):=if_pos ⟨g1,by omega⟩
  rw [e1,e2,setT_mg,show min ((sgF f v b).2+1) ((a+1+1:Nat):Int)=((a+1:Nat):Int)+1 by omega,← Int.add_assoc]
  refine ⟨rfl,?_⟩
  obtain ⟨r,hr⟩:=mgL_last (L:=spL f v b) (p:=(startF f.Blocks b+(sgF f v b).1,startF f.Blocks b+min ((sgF f v b).2+1) ((a+1:Nat):Int)))
  refine Nat.pos_of_ne_zero fun e=>?_
  rw [List.length_eq_zero_iff] at e
  rw [e] at hr; cases hr
theorem lA_off (k:SgK f v b) (h1:oA f v b (a+1)=false):lA f v b (a+1)=lA f v b a:=by
 have h1:(decide (0≤(sgF f v b).1)&&inB a (sgF f v b).1 (sgF f v b).2)=false:=h1
 unfold inB at h1
 unfold lA
 by_cases g:0≤(sgF f v b).1
 ·have hk:=k.le g
  have h3:¬ ((sgF f v b).1≤(a:Int)∧(a:Int)≤(sgF f v b).2):=fun hh=>by
   rw [decide_eq_true g,decide_eq_true hh.1,decide_eq_true hh.2] at h1; cases h1
  by_cases e:(sgF f v b).1<(a:Int)
  ·rw [if_pos ⟨g,by omega⟩,if_pos ⟨g,e⟩,show min ((sgF f v b).2+1) ((a+1:Nat):Int)=min ((sgF f v b).2+1) (a:Int) by omega]
  ·rw [if_neg (fun hh=>by have:=hh.2; omega),if_neg (fun hh=>e hh.2)]
 ·rw [if_neg (fun hh=>g hh.1),if_neg (fun hh=>g hh.1)]
theorem lA_len (h:SpI f v b):(lA f v b a).length≤b+1:=by
 have:=h.len
 unfold lA
 split
 ·exact Nat.le_trans mgL_len (by omega)
 ·omega
end
theorem startF_bd {f:Fun} (hC:Chkd f):∀ b,b≤f.Blocks.length→0≤startF f.Blocks b∧startF f.Blocks b≤82 * (b:Int)
 | 0,_=>⟨Int.le_refl _,Int.le_refl _⟩
 | b+1,hb=>by
  obtain ⟨h1,h2⟩:=startF_bd hC b (by omega)
  have hl:(blkA f b).Instrs.length≤40:=hC.e.siz.instrs b (by omega)
  have hbl:=hC.e.siz.blocks
  rw [startF_succ (by omega)]
  show 0≤IntKind.i64.wrap (IntKind.i64.wrap (startF f.Blocks b+2)+IntKind.i64.wrap (2 * ((blkA f b).Instrs.length:Int)))∧IntKind.i64.wrap (IntKind.i64.wrap (startF f.Blocks b+2)+IntKind.i64.wrap (2 * ((blkA f b).Instrs.length:Int)))≤_
  rw [wrap_in (n:=startF f.Blocks b+2) (by omega) (by omega),wrap_in (n:=2 * ((blkA f b).Instrs.length:Int)) (by omega) (by omega),wrap_in (by omega) (by omega)]
  omega
theorem startF_nx {f:Fun} (hC:Chkd f) {b:Nat} (hb:b<f.Blocks.length):startF f.Blocks (b+1)=startF f.Blocks b+2+2 * ((blkA f b).Instrs.length:Int):=by
 obtain ⟨h1,h2⟩:=startF_bd hC b (by omega)
 have hl:(blkA f b).Instrs.length≤40:=hC.e.siz.instrs b (by omega)
 have hbl:=hC.e.siz.blocks
 rw [startF_succ (by omega)]
 show IntKind.i64.wrap (IntKind.i64.wrap (startF f.Blocks b+2)+IntKind.i64.wrap (2 * ((blkA f b).Instrs.length:Int)))=_
 rw [wrap_in (n:=startF f.Blocks b+2) (by omega) (by omega),wrap_in (n:=2 * ((blkA f b).Instrs.length:Int)) (by omega) (by omega),wrap_in (by omega) (by omega)]
@[reducible] def spC (p:Int×Int):List AV:=[.i64 p.1,.i64 p.2]
@[reducible] def spV (L:List (Int×Int)):AV:=.ro 2 L.length (fun i=>spC (L.getD i default))
@[reducible] def rowP (L:List (Int×Int)):HO:=.row 55 2 L.length (fun i=>spC (L.getD i default))
@[reducible] def rowsS (n F:Nat) (L:Nat→List (Int×Int)):HO:=.rows 53 1 n (fun i=>[.sl ⟨F,[i]⟩ (L i).length])
@[reducible] def famS (n:Nat) (L:Nat→List (Int×Int)):HO:=.fam (inD n) (fun ix=>rowP (L (ix.headD 0)))
@[reducible] noncomputable def spsV (f:Fun):AV:=.ro 1 f.Values.length (fun v=>[spV (spL f (v:Int) f.Blocks.length)])
theorem rowP_via {ρ:Nm→Option Nm} {K L:List (Int×Int)} (h:L=K):via1 ρ (rowP K) (rowP L):=by subst h; exact Or.inl ⟨_,rfl,zg⟩
theorem rowP_sub {K L:List (Int×Int)} (h:L=K):sub1 (rowP K) (rowP L):=by subst h; exact ⟨_,_,rfl,rfl,zg⟩
theorem snocP_row {L:List (Int×Int)} {p:Int×Int} {i:Nat} (hi:i<(L++[p]).length):spC ((L++[p]).getD i default)=if i<L.length then spC (L.getD i default) else spC p:=by
 by_cases e:i<L.length
 ·rw [if_pos e]
  simp only [List.getD_eq_getElem?_getD,List.getElem?_append_left e]
 ·rw [if_neg e]
  have:i=L.length:=by simp at hi; omega
  subst this
  simp [List.getD_eq_getElem?_getD]
theorem setT_row {L:List (Int×Int)} {t:Int} {i:Nat} (hi:i<L.length):spC ((setT L t).getD i default)=if i=L.length - 1 then spC ((L.getD (L.length - 1) default).1,t) else spC (L.getD i default):=by
 unfold setT
 by_cases e:i=L.length - 1
 ·rw [if_pos e]
  subst e
  simp only [List.getD_eq_getElem?_getD,List.getElem?_set_self hi,Option.getD_some]
 ·rw [if_neg e]
  simp only [List.getD_eq_getElem?_getD,List.getElem?_set_ne (Ne.symm e)]
theorem setT_len {L:List (Int×Int)} {t:Int}:(setT L t).length=L.length:=by unfold setT; simp
theorem last_of {L:List (Int×Int)} (h:0<L.length):L.getLast? = some (L.getD (L.length - 1) default):=by
 rw [List.getLast?_eq_getElem?,List.getD_eq_getElem?_getD]
 cases hq:L[L.length - 1]? with
 | none=>rw [List.getElem?_eq_none_iff] at hq; omega
 | some q=>rfl
noncomputable def slK (f:Fun) (b v w:Nat):List (Int×Int):=spL f (w:Int) (if w<v then b+1 else b)
section
variable {f : Fun} {b v w : Nat}
theorem slK_at:slK f b v v=spL f (v:Int) b:=by unfold slK; rw [if_neg (Nat.lt_irrefl _)]
theorem slK_up:slK f b (v+1) v=spL f (v:Int) (b+1):=by unfold slK; rw [if_pos (Nat.lt_succ_self _)]
theorem slK_ne (h:w≠v):slK f b (v+1) w=slK f b v w:=by
 unfold slK
 by_cases e:w<v
 ·rw [if_pos (by omega),if_pos e]
 ·rw [if_neg (by omega),if_neg e]
theorem slK_same (h:spL f (v:Int) (b+1)=spL f (v:Int) b):slK f b (v+1) w=slK f b v w:=by
 by_cases e:w=v
 ·subst e; rw [slK_up,slK_at,h]
 ·exact slK_ne e
theorem slK_next {V:Nat} (h:w<V):slK f (b+1) 0 w=slK f b V w:=by unfold slK; rw [if_neg (Nat.not_lt_zero _),if_pos h]
theorem slK_zero:slK f 0 0 w=[]:=by unfold slK; rw [if_neg (Nat.not_lt_zero _)]; rfl
theorem slK_all:slK f b 0 w=spL f (w:Int) b:=by unfold slK; rw [if_neg (Nat.not_lt_zero _)]
end
theorem sgK_of {f:Fun} {m:Mch} (h0:chkF f m=0) (hC:Chkd f) {b v:Nat} (hb:b<f.Blocks.length) (hv:v<f.Values.length) (st:Int) :
  SpR st (sqE (blkA f b) (v:Int) st (nedA f b v) (behA f b v)) (sgF f v b)∧SgK f (v:Int) b∧((sgF f v b).1 = -1∨0≤(sgF f v b).1):=by
 have hk:∀ b i k,b<f.Blocks.length→i<(blkA f b).Instrs.length→k<((blkA f b).Instrs.getD i default).Operands.length→(((blkA f b).Instrs.getD i default).Operands.getD k default).Kind=1∨(((blkA f b).Instrs.getD i default).Operands.getD k default).Kind=2:=fun b i k hb hi hk'=>kind_ok h0 hb hi k hk'
 obtain ⟨h1,h2,h3⟩:=sgF_R hk hb hv st
 refine ⟨h1,⟨fun g=>?_,h2⟩,h3⟩
 rcases h1 with ⟨_,_,q,_⟩|⟨_,q⟩
 ·exact q
 ·omega
theorem spI_of {f:Fun} {m:Mch} (h0:chkF f m=0) (hC:Chkd f) {v:Nat} (hv:v<f.Values.length):∀ b,b≤f.Blocks.length→SpI f (v:Int) b
 | 0,_=>SpI.zero
 | b+1,hb=>(spI_of h0 hC hv b (by omega)).succ (sgK_of h0 hC (by omega) hv 0).2.1 (startF_nx hC (by omega))
set_option maxRecDepth 20000 in
set_option maxHeartbeats 16000000 in
theorem c_Spans (f:Fun) (m:Mch) (hok:Fun.ok f) {d:Nat→Int} (h:TrOk f d) (hC:Chkd f) (hc0:chkF f m=0) (h0:flwF f m=0):ACallIs B.P 14 [f.av,m.av] (.tup [spsV f,.i64 0]):=by
 have hz5:=hC.e.siz
 have hvl:=hz5.values
 have hvm:f.Values.length≤maxLen:=by unfold maxLen; omega
 have hbl:=hz5.blocks
 have hbm:f.Blocks.length≤maxLen:=by unfold maxLen; omega
 obtain ⟨kk,hk⟩:∃ k,k=nW f.Values.length:=⟨_,rfl⟩
 obtain ⟨ho1,ho2⟩:=ord_all2 h.o
 have hcm:=m_compute f hC hok hk (ordF (scF f) f.Blocks.length) ho1 ho2
 have hsl:(startsF f.Blocks).length=f.Blocks.length+1:=startsF_len _
 refine ACallIs.enter B _ _ Tryz.func14 rfl rfl Tryz.ntmps14 Tryz.results14 rfl fun _=>?_
 repeat (first|apply zq|apply zb|apply zk)
 apply zr;intro _
 refine AWp.freezeObj 2 rfl rfl ?_
 refine AWp.freezeObj 3 rfl rfl ?_
 repeat (first|apply zq|apply zb|apply zk)
 apply zr
 refine CallX.pure (c_Dominators f m hok h h0) rfl rfl rfl ?_
 intro _
 repeat (first|apply zq|apply zb|apply zk)
 apply zr;intro _
 repeat (first|apply zq|apply zb|apply zk)
 apply AWp.cond;apply zi<;>intro h1
 ·cases h1
 refine AWp.freezeObj 6 rfl rfl ?_
 repeat (first|apply zq|apply zb|apply zk)
 apply zr
 refine CallX.lend hcm [(11,24),(60,60),(62,62),(61,61),(63,63)] rfl zt rfl ?_
 intro _
 refine AWp.freezeO 62 (stW f.Blocks.length kk (nedA f)) ⟨_,_,rfl,fun ix hD=>⟨hD,_,_,rfl,rfl,fun i hi=>rfl⟩⟩ (fun ix hD=>hD) (fun ix hD=>trivial) ?_
 refine AWp.freezeO 63 (stW f.Blocks.length kk (behA f)) ⟨_,_,rfl,fun ix hD=>⟨hD,_,_,rfl,rfl,fun i hi=>rfl⟩⟩ (fun ix hD=>hD) (fun ix hD=>trivial) ?_
 refine AWp.via some ⟨[(2,.ptr f.cells),(8,.obj 24 0)],[(24,.cells (f.cells++[.sl 60 f.Blocks.length,.sl 61 f.Blocks.length])),(60,.row 176 1 f.Blocks.length (fun b=>[bitV kk (nedA f b)])),(61,.row 176 1 f.Blocks.length (fun b=>[bitV kk (behA f b)]))]⟩ ⟨?_,?_,fun a b c _ _ ha hb=>Option.some.inj (ha.trans hb.symm),fun a _ _=>rfl⟩ ?_
 ·repeat' (first|exact rfl|exact zt|apply zi)
 ·refine zi (zi ⟨_,⟨_,rfl,rfl,zt⟩,rfl⟩ ?_) (zi (zi ⟨_,⟨_,rfl,rfl,zt⟩,Or.inr ⟨_,rfl,fun i hi=>zi rfl rfl⟩⟩ zt) (zi (zi ⟨_,⟨_,rfl,rfl,zt⟩,Or.inr ⟨_,rfl,fun i hi=>zi rfl rfl⟩⟩ zt) zt))
  all_goals repeat' (first|exact rfl|exact zt|apply zi)
 refine AWp.freeze 60 (fun b=>[bitV kk (nedA f b)]) rfl (fun i hi=>rfl) ?_
 refine AWp.freeze 61 (fun b=>[bitV kk (behA f b)]) rfl (fun i hi=>rfl) ?_
 refine AWp.freezeObj 24 rfl rfl ?_
 repeat (first|apply zq|apply zb|apply zk)
 apply zr
 refine CallX.pure (c_Starts f (by omega)) rfl rfl rfl ?_
 intro _
 repeat (first|apply zq|apply zb|apply zk)
 apply zr
 refine zi rfl (zi (Int.natCast_nonneg _) (zi (by simp only [Int.toNat_natCast]; omega) ?_))
 intro _
 refine AWp.via (newρ 70) ⟨[(2,.ptr f.cells),(8,.ptr (ndC f kk)),(9,ints (startsF f.Blocks)),(10,.sl 35 f.Values.length)],[(35,rowsS f.Values.length 70 (fun _=>[])),(70,famS f.Values.length (fun _=>[]))]⟩ ?_ ?_
 ·refine ⟨?_,?_,newρ_inj 70 _,newρ_old (by decide) _⟩
  ·repeat' (first|exact rfl|exact zt|apply zi)
  ·exact zi (zi ⟨_,⟨_,rfl,rfl,zt⟩,Or.inr ⟨_,rfl,fun i hi=>rfl⟩⟩ (fun i hi=>zi ⟨i,hi,rfl⟩ zt)) (zi (fun ix hD=>zi ⟨_,_,_,rfl⟩ zt) zt)
 repeat (first|apply zq|apply zb|apply zk)
 apply zr;intro _
 repeat (first|apply zq|apply zb|apply zk)
 refine AWp.loop (fun b:Nat=>⟨[(2,.ptr f.cells),(8,.ptr (ndC f kk)),(9,ints (startsF f.Blocks)),(10,.sl 35 f.Values.length),(38,.i64 f.Blocks.length),(39,.i64 b)],[(35,rowsS f.Values.length 70 (fun w=>slK f b 0 w)),(70,famS f.Values.length (fun w=>slK f b 0 w))]⟩) (fun b=>b≤f.Blocks.length) (fun b=>f.Blocks.length - b) 0 (Nat.zero_le _) ?_ ?_
 ·refine zi ?_ (zi ⟨_,_,rfl,rfl,fun i hi=>congrArg (fun l:List (Int×Int)=>[AV.sl ⟨70,[i]⟩ l.length]) (slK_zero)⟩ (zi (fun i hi=>zi ⟨i,hi,rfl⟩ zt) (zi ⟨_,_,rfl,fun z hz=>⟨hz,rowP_sub slK_zero⟩⟩ (zi (fun z hz=>trivial) zt))))
  all_goals repeat' (first|exact rfl|exact zt|apply zi)
 intro b hb0
 repeat (first|apply zq|apply zb|apply zk)
 apply zr;intro _
 repeat (first|apply zq|apply zb|apply zk)
 apply AWp.cond;apply zi<;>intro h1
 ·have hb : b<f.Blocks.length:=zd h1
  have hst:((startsF f.Blocks).getD b default)=startF f.Blocks b:=startsF_get (by omega)
  obtain ⟨hs0,hs1⟩:=startF_bd hC b (by omega)
  repeat (first|apply zq|apply zb|apply zk)
  apply zr;intro _
  repeat (first|apply zq|apply zb|apply zk)
  apply zr;intro _
  repeat (first|apply zq|apply zb|apply zk)
  refine AWp.loop (fun v:Nat=>⟨[(2,.ptr f.cells),(8,.ptr (ndC f kk)),(9,ints (startsF f.Blocks)),(10,.sl 35 f.Values.length),(38,.i64 f.Blocks.length),(39,.i64 b),(11,.i64 b),(44,.i64 f.Values.length),(45,.i64 v)],[(35,rowsS f.Values.length 70 (fun w=>slK f b v w)),(70,famS f.Values.length (fun w=>slK f b v w))]⟩) (fun v=>v≤f.Values.length) (fun v=>f.Values.length - v) 0 (Nat.zero_le _) ?_ ?_
  ·refine zi ?_ (zi ⟨_,_,rfl,rfl,zg⟩ (zi (fun i hi=>zi ⟨i,hi,rfl⟩ zt) (zi ⟨_,_,rfl,fun z hz=>⟨hz,_,_,rfl,rfl,fun i hi=>rfl⟩⟩ (zi (fun z hz=>trivial) zt))))
   all_goals repeat' (first|exact rfl|exact zt|apply zi)
  intro v hv0
  repeat (first|apply zq|apply zb|apply zk)
  apply zr;intro _
  repeat (first|apply zq|apply zb|apply zk)
  apply AWp.cond;apply zi<;>intro h2
  ·have hv:v<f.Values.length:=zd h2
   obtain ⟨hR,hG,hN⟩:=sgK_of hc0 hC hb hv ((startsF f.Blocks).getD b default)
   have hI:=spI_of hc0 hC hv b (by omega)
   have hIl:(spL f (v:Int) b).length≤16:=by have:=hI.len; omega
   have hspan:=c_span f hC hok hk b v hb hv ((startsF f.Blocks).getD b default) (by rw [hst]; exact hs0) (by rw [hst]; omega)
   refine AWp.skip ?_
   refine AWp.seq ?_
   refine AWp.mono (Q:=fun e t=>e=.normal∧∃ ρ,Via ρ ⟨[(2,.ptr f.cells),(8,.ptr (ndC f kk)),(9,ints (startsF f.Blocks)),(10,.sl 35 f.Values.length),(38,.i64 f.Blocks.length),(39,.i64 b),(11,.i64 b),(44,.i64 f.Values.length),(45,.i64 v)],[(35,rowsS f.Values.length 70 (fun w=>slK f b (v+1) w)),(70,famS f.Values.length (fun w=>slK f b (v+1) w))]⟩ t) ?_ ?_
   ·repeat (first|apply zq|apply zb|apply zk)
    apply zr;intro _
    repeat (first|apply zq|apply zb|apply zk)
    apply zr
    repeat' (first|exact zt|apply zi|refine CallX.pure hspan rfl rfl rfl ?_|fail)
    all_goals first|exact fun _=>nn ((by omega))|skip
    intro _
    refine AWp.freezeObj 13 rfl rfl ?_
    repeat (first|apply zq|apply zb|apply zk)
    apply zr;intro _
    repeat (first|apply zq|apply zb|apply zk)
    apply AWp.cond;apply zi<;>intro h3
    ·have h3:(sqE (blkA f b) (v:Int) ((startsF f.Blocks).getD b default) (nedA f b v) (behA f b v)).2.2=false:=by
      have h3:(!(sqE (blkA f b) (v:Int) ((startsF f.Blocks).getD b default) (nedA f b v) (behA f b v)).2.2)=true:=h3
      simpa using h3
     have hno:¬ 0≤(sgF f (v:Int) b).1:=by
      rcases hR with ⟨q,_⟩|⟨_,q⟩
      ·rw [h3] at q; cases q
      ·omega
     have hsame:spL f (v:Int) (b+1)=spL f (v:Int) b:=if_neg hno
     apply ze
     refine zi rfl (Exists.intro some ⟨?_,?_,fun a b c _ _ ha hb=>Option.some.inj (ha.trans hb.symm),fun a _ _=>rfl⟩)
     ·repeat' (first|exact rfl|exact zt|apply zi)
     ·exact zi (zi ⟨_,⟨_,rfl,rfl,zt⟩,Or.inl ⟨_,rfl,fun i hi=>congrArg (fun l:List (Int×Int)=>[AV.sl ⟨70,[i]⟩ l.length]) (slK_same hsame).symm⟩⟩ (fun i hi=>zi ⟨i,hi,rfl⟩ zt)) (zi (fun ix hD=>zi ⟨_,⟨_,rfl,rfl,hD⟩,rowP_via (slK_same hsame)⟩ zt) zt)
    have h3:(sqE (blkA f b) (v:Int) ((startsF f.Blocks).getD b default) (nedA f b v) (behA f b v)).2.2=true:=by
     have h3:(!(sqE (blkA f b) (v:Int) ((startsF f.Blocks).getD b default) (nedA f b v) (behA f b v)).2.2)=false:=h3
     simpa using h3
    refine AWp.skip ?_
    have hup:spL f (v:Int) (b+1)=mgL (spL f (v:Int) b) ((sqE (blkA f b) (v:Int) ((startsF f.Blocks).getD b default) (nedA f b v) (behA f b v)).1,(sqE (blkA f b) (v:Int) ((startsF f.Blocks).getD b default) (nedA f b v) (behA f b v)).2.1):=by
     rcases hR with ⟨_,q1,_,q2,q3⟩|⟨q,_⟩
     ·rw [q2,q3,hst]; exact if_pos q1
     ·rw [h3] at q; cases q
    obtain ⟨r,hrE,hrN⟩:∃ r:Nat→List AV,r v=[.sl 71 (spL f (v:Int) b).length]∧∀ i,i≠v→r i=[.sl ⟨70,[i]⟩ (slK f b v i).length]:=⟨(fun i=>if i=v then [.sl 71 (spL f (v:Int) b).length] else [.sl ⟨70,[i]⟩ (slK f b v i).length]),if_pos rfl,fun i h=>if_neg h⟩
    refine AWp.via (takeρ 71 70 v) ⟨[(2,.ptr f.cells),(8,.ptr (ndC f kk)),(9,ints (startsF f.Blocks)),(10,.sl 35 f.Values.length),(38,.i64 f.Blocks.length),(39,.i64 b),(11,.i64 b),(44,.i64 f.Values.length),(45,.i64 v),(12,.i64 v),(13,.ptr [.i64 (sqE (blkA f b) (v:Int) ((startsF f.Blocks).getD b default) (nedA f b v) (behA f b v)).1,.i64 (sqE (blkA f b) (v:Int) ((startsF f.Blocks).getD b default) (nedA f b v) (behA f b v)).2.1])],[(35,.rows 53 1 f.Values.length r),(70,.fam (fun ix=>inD f.Values.length ix∧ix≠[v]) (fun ix=>rowP (slK f b v (ix.headD 0)))),(71,rowP (spL f (v:Int) b))]⟩ ?_ ?_
    ·refine ⟨?_,?_,takeρ_inj (fun ix h=>h) (fun h=>h.2 rfl),takeρ_old (by decide) _⟩
     ·repeat' (first|exact rfl|exact zt|apply zi)
     ·refine zi (zi ⟨_,⟨_,rfl,rfl,zt⟩,Or.inl ⟨_,rfl,fun i hi=>?_⟩⟩ (fun i hi=>?_)) (zi (fun ix hD=>zi ⟨_,⟨_,rfl,rfl,hD.1⟩,Or.inl ⟨_,rfl,zg⟩⟩ zt) (zi (zi ⟨_,⟨_,rfl,rfl,⟨_,hv,rfl⟩⟩,rowP_via (slK_at (f:=f) (b:=b) (v:=v)).symm⟩ zt) zt))
      ·by_cases e:i=v
       ·subst e; rw [hrE]
        show [AV.sl ⟨70,[i]⟩ (slK f b i i).length]=_
        rw [slK_at]; rfl
       ·rw [hrN i e]; rfl
      ·by_cases e:i=v
       ·subst e; rw [hrE]; exact zi rfl zt
       ·rw [hrN i e]; exact zi ⟨⟨i,hi,rfl⟩,fun h=>e (by injection h)⟩ zt
    have hrE':r ((v:Int)).toNat=[.sl 71 (spL f (v:Int) b).length]:=hrE
    repeat (first|apply zq|apply zb|apply zk)
    apply zr
    refine zi (fun _=>nn hv) ?_
    refine zi (fun _=>hv) ?_
    rw [hrE']
    intro _
    have hw:IntKind.i64.wrap (((spL f (v:Int) b).length:Int) - 1)=((spL f (v:Int) b).length:Int) - 1:=wrap_in (by omega) (by omega)
    have hg:(decide (IntKind.i64.wrap (((spL f (v:Int) b).length:Int) - 1)≥0)==true)=true→0≤IntKind.i64.wrap (((spL f (v:Int) b).length:Int) - 1)∧IntKind.i64.wrap (((spL f (v:Int) b).length:Int) - 1)<(spL f (v:Int) b).length:=fun hh=>by
     rw [hw] at hh ⊢
     have hh:((spL f (v:Int) b).length:Int) - 1≥0:=by simpa using hh
     omega
    have hg2:(decide (IntKind.i64.wrap (((spL f (v:Int) b).length:Int) - 1)≥0)==true)=true→(IntKind.i64.wrap (((spL f (v:Int) b).length:Int) - 1)).toNat<(spL f (v:Int) b).length:=fun hh=>by
     have:=hg hh
     omega
    repeat (first|apply zq|apply zb|apply zk)
    apply zr;intro _
    repeat (first|apply zq|apply zb|apply zk)
    refine AWp.quietU (.q 0 [] (.q 1 [] (.q 2 [] (.q 3 [] (.q 4 [] (.q 5 [71] (.q 6 [71] (.q 7 [71] (.q 8 [] (.q 9 [] (.q 10 [] (.q 11 [] .fin)))))))))))) [(0,[]),(1,[]),(2,[]),(3,[]),(4,[]),(5,[71]),(6,[71]),(7,[71]),(8,[]),(9,[]),(10,[]),(11,[])] mixed (by kernel_rfl) ?_
    repeat' (first|exact zt|apply zi|fail)
    all_goals first|exact fun h=>h|exact hg|exact hg2|exact gT|exact gF|exact gN|exact gA|skip
    intro _
    repeat (first|apply zq|apply zb|apply zk)
    apply AWp.cond;apply zi<;>intro h4
    ·have h4:(bif decide (IntKind.i64.wrap (((spL f (v:Int) b).length:Int) - 1)≥0) then (((spL f (v:Int) b).getD (IntKind.i64.wrap (((spL f (v:Int) b).length:Int) - 1)).toNat default).2==(sqE (blkA f b) (v:Int) ((startsF f.Blocks).getD b default) (nedA f b v) (behA f b v)).1) else false)=true:=h4
     have hp:0<(spL f (v:Int) b).length:=Nat.pos_of_ne_zero fun e=>by
      rw [hw,e] at h4; cases h4
     have hidx:(IntKind.i64.wrap (((spL f (v:Int) b).length:Int) - 1)).toNat=(spL f (v:Int) b).length - 1:=by rw [hw]; omega
     have hq:((spL f (v:Int) b).getD ((spL f (v:Int) b).length - 1) default).2=(sqE (blkA f b) (v:Int) ((startsF f.Blocks).getD b default) (nedA f b v) (behA f b v)).1:=by
      rw [hidx,decide_eq_true (by rw [hw]; omega)] at h4
      have h4:(((spL f (v:Int) b).getD ((spL f (v:Int) b).length - 1) default).2==(sqE (blkA f b) (v:Int) ((startsF f.Blocks).getD b default) (nedA f b v) (behA f b v)).1)=true:=h4
      simpa using h4
     have hnew:spL f (v:Int) (b+1)=setT (spL f (v:Int) b) (sqE (blkA f b) (v:Int) ((startsF f.Blocks).getD b default) (nedA f b v) (behA f b v)).2.1:=by rw [hup,mgL_mrg (last_of hp) hq,setT_mrg (last_of hp)]
     repeat (first|apply zq|apply zb|apply zk)
     apply zr
     repeat' (first|exact zt|apply zi|fail)
     all_goals first|exact fun _=>hg (by rw [hw,decide_eq_true (by omega)]; rfl)|exact hg2 (by rw [hw,decide_eq_true (by omega)]; rfl)|exact fun _=>hg2 (by rw [hw,decide_eq_true (by omega)]; rfl)|skip
     intro _
     apply ze
     refine zi rfl (Exists.intro (putρ 70 v 71) ⟨?_,?_,putρ_inj (fun h=>h),putρ_old (by decide) _⟩)
     ·repeat' (first|exact rfl|exact zt|apply zi)
     ·refine zi (zi ⟨_,⟨_,rfl,rfl,zt⟩,Or.inl ⟨_,rfl,fun i hi=>?_⟩⟩ (fun i hi=>zi ⟨i,hi,rfl⟩ zt)) (zi (fun ix hD=>zi ?_ zt) zt)
      ·by_cases e:i=v
       ·subst e
        rw [hrE]
        show _=[AV.rn (putρ 70 i 71) (.sl ⟨70,[i]⟩ (slK f b (i+1) i).length)]
        simp only [AV.rn,putρ_at]
        rw [slK_up,hnew,setT_len]; rfl
       ·rw [hrN i e]
        show _=[AV.rn (putρ 70 v 71) (.sl ⟨70,[i]⟩ (slK f b (v+1) i).length)]
        simp only [AV.rn,putρ_ne e,slK_ne e]
      ·obtain ⟨i,hi,rfl⟩:=hD
       by_cases e:i=v
       ·subst e
        unfold viaO
        rw [putρ_at]
        show ∃ o0,_∧via1 _ o0 (rowP (slK f b (i+1) i))
        rw [slK_up,hnew]
        refine ⟨_,⟨_,rfl,rfl,zt⟩,Or.inl ⟨_,congrArg (fun n=>HO.row 55 2 n _) setT_len.symm,fun j hj=>?_⟩⟩
        rw [setT_len] at hj
        refine Eq.trans ?_ (setT_row hj).symm
        show (if j=(IntKind.i64.wrap (((spL f (i:Int) b).length:Int) - 1)).toNat then _ else _)=_
        rw [hidx]
        by_cases e2:j=(spL f (i:Int) b).length - 1
        ·rw [if_pos e2,if_pos e2]; rfl
        ·rw [if_neg e2,if_neg e2]
       ·unfold viaO
        rw [putρ_ne e]
        show ∃ o0,_∧via1 _ o0 (rowP (slK f b (v+1) i))
        rw [slK_ne e]
        exact ⟨_,⟨_,rfl,rfl,⟨⟨i,hi,rfl⟩,fun h=>e (by injection h)⟩⟩,Or.inl ⟨_,rfl,zg⟩⟩
    ·have h4:(bif decide (IntKind.i64.wrap (((spL f (v:Int) b).length:Int) - 1)≥0) then (((spL f (v:Int) b).getD (IntKind.i64.wrap (((spL f (v:Int) b).length:Int) - 1)).toNat default).2==(sqE (blkA f b) (v:Int) ((startsF f.Blocks).getD b default) (nedA f b v) (behA f b v)).1) else false)=false:=h4
     have hnew:spL f (v:Int) (b+1)=(spL f (v:Int) b)++[((sqE (blkA f b) (v:Int) ((startsF f.Blocks).getD b default) (nedA f b v) (behA f b v)).1,(sqE (blkA f b) (v:Int) ((startsF f.Blocks).getD b default) (nedA f b v) (behA f b v)).2.1)]:=by
      rw [hup]
      refine mgL_app fun q hq hqe=>?_
      have hp:0<(spL f (v:Int) b).length:=Nat.pos_of_ne_zero fun e=>by
       rw [List.length_eq_zero_iff.1 e] at hq; cases hq
      have hidx:(IntKind.i64.wrap (((spL f (v:Int) b).length:Int) - 1)).toNat=(spL f (v:Int) b).length - 1:=by rw [hw]; omega
      rw [last_of hp] at hq
      injection hq with hq
      rw [hidx,decide_eq_true (by rw [hw]; omega)] at h4
      have h4:(((spL f (v:Int) b).getD ((spL f (v:Int) b).length - 1) default).2==(sqE (blkA f b) (v:Int) ((startsF f.Blocks).getD b default) (nedA f b v) (behA f b v)).1)=false:=h4
      rw [hq] at h4
      have hqe:q.2=(sqE (blkA f b) (v:Int) ((startsF f.Blocks).getD b default) (nedA f b v) (behA f b v)).1:=hqe
      simp [hqe] at h4
     refine AWp.skip ?_
     repeat (first|apply zq|apply zb|apply zk)
     apply zr
     repeat' (first|exact zt|apply zi|fail)
     all_goals first|exact fun _=>nn hv|exact hv|exact Nat.le_refl _|exact rfl|exact fun _ _=>rfl|(intro j hj; obtain rfl:j=0:=(by omega); exact rfl)|omega|skip
     intro _
     refine zi rfl (Exists.intro (putρ 70 v 91) ⟨?_,?_,putρ_inj (fun h=>h),putρ_old (by decide) _⟩)
     ·repeat' (first|exact rfl|exact zt|apply zi)
     ·refine zi (zi ⟨_,⟨_,rfl,rfl,zt⟩,Or.inl ⟨_,rfl,fun i hi=>?_⟩⟩ (fun i hi=>zi ⟨i,hi,rfl⟩ zt)) (zi (fun ix hD=>zi ?_ zt) zt)
      ·by_cases e:i=v
       ·subst e
        simp only [Int.toNat_natCast,if_pos,hrE]
        show [AV.sl 91 ((spL f (i:Int) b).length+1)]=[AV.rn (putρ 70 i 91) (.sl ⟨70,[i]⟩ (slK f b (i+1) i).length)]
        simp only [AV.rn,putρ_at]
        rw [slK_up,hnew,List.length_append]; rfl
       ·simp only [Int.toNat_natCast,if_neg e,hrN i e]
        show [AV.sl ⟨70,[i]⟩ (slK f b v i).length]=[AV.rn (putρ 70 v 91) (.sl ⟨70,[i]⟩ (slK f b (v+1) i).length)]
        simp only [AV.rn,putρ_ne e,slK_ne e]
      ·obtain ⟨i,hi,rfl⟩:=hD
       by_cases e:i=v
       ·subst e
        unfold viaO
        rw [putρ_at]
        show ∃ o0,_∧via1 _ o0 (rowP (slK f b (i+1) i))
        rw [slK_up,hnew]
        refine ⟨_,⟨_,rfl,rfl,zt⟩,Or.inl ⟨_,congrArg (fun n=>HO.row 55 2 n _) (by rw [List.length_append]; rfl),fun j hj=>?_⟩⟩
        refine Eq.trans ?_ (snocP_row hj).symm
        by_cases e2:j<(spL f (i:Int) b).length
        ·exact Eq.trans (if_pos e2) (if_pos e2).symm
        ·have e3:j - (spL f (i:Int) b).length=0:=by rw [List.length_append] at hj; simp at hj; omega
         refine Eq.trans (if_neg e2) (Eq.trans ?_ (if_neg e2).symm)
         show ([spC ((sqE (blkA f b) (i:Int) ((startsF f.Blocks).getD b default) (nedA f b i) (behA f b i)).1,(sqE (blkA f b) (i:Int) ((startsF f.Blocks).getD b default) (nedA f b i) (behA f b i)).2.1)].getD (j - (spL f (i:Int) b).length) []:List AV)=_
         rw [e3]; rfl
       ·unfold viaO
        rw [putρ_ne e]
        show ∃ o0,_∧via1 _ o0 (rowP (slK f b (v+1) i))
        rw [slK_ne e]
        exact ⟨_,⟨_,rfl,rfl,⟨⟨i,hi,rfl⟩,fun h=>e (by injection h)⟩⟩,Or.inl ⟨_,rfl,zg⟩⟩
   rintro _ _ ⟨rfl,ρ,hs⟩
   refine AWp.via ρ _ hs ?_
   repeat (first|apply zq|apply zb|apply zk)
   apply zr;intro _
   refine round_end (v+1) hv ?_ (by omega)
   refine zi ?_ (zi ⟨_,_,rfl,rfl,zg⟩ (zi (fun i hi=>zi ⟨i,hi,rfl⟩ zt) (zi ⟨_,_,rfl,fun z hz=>⟨hz,_,_,rfl,rfl,fun i hi=>rfl⟩⟩ (zi (fun z hz=>trivial) zt))))
   all_goals repeat' (first|exact rfl|exact zt|exact zw hv hvm|apply zi)
  have hv3:¬ (v:Int)<f.Values.length:=of_decide_eq_false h2
  obtain rfl:v=f.Values.length:=by omega
  apply ze
  repeat (first|apply zq|apply zb|apply zk)
  apply zr;intro _
  refine round_end (b+1) hb ?_ (by omega)
  refine zi ?_ (zi ⟨_,_,rfl,rfl,fun i hi=>congrArg (fun l:List (Int×Int)=>[AV.sl ⟨70,[i]⟩ l.length]) (slK_next hi)⟩ (zi (fun i hi=>zi ⟨i,hi,rfl⟩ zt) (zi ⟨_,_,rfl,fun z hz=>⟨hz,rowP_sub (slK_next (inD_lt hz))⟩⟩ (zi (fun z hz=>trivial) zt))))
  all_goals repeat' (first|exact rfl|exact zt|exact zw hb hbm|apply zi)
 have hb3:¬ (b:Int)<f.Blocks.length:=of_decide_eq_false h1
 obtain rfl:b=f.Blocks.length:=by omega
 apply ze
 refine AWp.freezeO 70 (famS f.Values.length (fun w=>slK f f.Blocks.length 0 w)) ⟨_,_,rfl,fun ix hD=>⟨hD,_,_,rfl,rfl,fun i hi=>rfl⟩⟩ (fun ix hD=>hD) (fun ix hD=>trivial) ?_
 refine AWp.via some ⟨[(10,.sl 35 f.Values.length)],[(35,.row 53 1 f.Values.length (fun v=>[spV (spL f (v:Int) f.Blocks.length)]))]⟩ ⟨?_,?_,fun a b c _ _ ha hb=>Option.some.inj (ha.trans hb.symm),fun a _ _=>rfl⟩ ?_
 ·repeat' (first|exact rfl|exact zt|apply zi)
 ·exact zi (zi ⟨_,⟨_,rfl,rfl,zt⟩,Or.inr ⟨_,rfl,fun i hi=>zi (congrArg (fun l=>[spV l]) slK_all) rfl⟩⟩ zt) zt
 refine AWp.freeze 35 (fun v=>[spV (spL f (v:Int) f.Blocks.length)]) rfl (fun i hi=>rfl) ?_
 repeat (first|apply zq|apply zb|apply zk)
 apply zr;intro _
 refine AWp.ret ⟨Or.inl rfl,rfl,?_⟩
 intro _
 rfl
theorem c_SpansNo (f:Fun) (m:Mch) (hok:Fun.ok f) (h0:flwF f m≠0):ACallIs B.P 14 [f.av,m.av] (.tup [nilV,.i64 (flwF f m)]):=by
 refine ACallIs.enter B _ _ Tryz.func14 rfl rfl Tryz.ntmps14 Tryz.results14 rfl fun _=>?_
 repeat (first|apply zq|apply zb|apply zk)
 apply zr;intro _
 refine AWp.freezeObj 2 rfl rfl ?_
 refine AWp.freezeObj 3 rfl rfl ?_
 repeat (first|apply zq|apply zb|apply zk)
 apply zr
 refine CallX.pure (c_DominatorsNo f m hok h0) rfl rfl rfl ?_
 intro _
 repeat (first|apply zq|apply zb|apply zk)
 apply zr;intro _
 repeat (first|apply zq|apply zb|apply zk)
 apply AWp.cond;apply zi<;>intro h1
 ·repeat (first|apply zq|apply zb|apply zk)
  apply zr;intro _
  refine AWp.ret ⟨Or.inl rfl,rfl,?_⟩
  intro _
  rfl
 exact absurd (show (flwF f m != 0)=false from h1) (by simpa using h0)
theorem oA_now {f:Fun} {v:Int} {b a:Nat}:(bif decide (0≤(sgF f v b).1) then inB a (sgF f v b).1 (sgF f v b).2 else false)=oA f v b (a+1):=by
 show _=(decide (0≤(sgF f v b).1)&&inB a (sgF f v b).1 (sgF f v b).2)
 cases decide (0≤(sgF f v b).1)<;>rfl
noncomputable def mA (f:Fun) (v:Int) (b a:Nat):List (Int×Int):=bif oA f v b (a+1)&&!oA f v b a then lA f v b a++[(startF f.Blocks b+(a:Int),startF f.Blocks b+(a:Int)+1)] else lA f v b a
theorem rowP_subO {e:List (Nat×HO)} {t:Nat} {K L:List (Int×Int)} (hl:Abs.look e t=some (rowP K)) (h:L=K):subHO (Abs.look e t) (rowP L):=by subst h; exact ⟨_,_,hl,rfl,fun i hi=>rfl⟩
theorem slL_eq {K L:List (Int×Int)} (h:L=K):some (AV.sl 91 K.length)=some (AV.sl 91 L.length):=by rw [h]
def renρ (a b:Nat) (nm:Nm):Option Nm:=bif Nat.beq nm.id b then none else bif Nat.beq nm.id a then some ⟨b,nm.ix⟩ else some nm
theorem renρ_inj (a b:Nat) (p:Nm→Prop):∀ x y z:Nm,p x→p y→renρ a b x=some z→renρ a b y=some z→x=y:=by
 rintro ⟨xi,xx⟩ ⟨yi,yx⟩ ⟨zi,zx⟩ _ _ hx hy
 unfold renρ at hx hy
 cases e1:Nat.beq xi b<;>cases e2:Nat.beq yi b<;>simp only [e1,e2,cond_true,cond_false] at hx hy
 ·cases e3:Nat.beq xi a<;>cases e4:Nat.beq yi a<;>simp only [e3,e4,cond_true,cond_false,Option.some.injEq,Nm.mk.injEq] at hx hy
  ·obtain ⟨rfl,rfl⟩:=hx; obtain ⟨rfl,rfl⟩:=hy; rfl
  ·obtain ⟨rfl,rfl⟩:=hx; obtain ⟨rfl,rfl⟩:=hy; simp at e1
  ·obtain ⟨rfl,rfl⟩:=hx; obtain ⟨rfl,rfl⟩:=hy; simp at e2
  ·have e3:=Nat.eq_of_beq_eq_true e3
   have e4:=Nat.eq_of_beq_eq_true e4
   obtain ⟨_,rfl⟩:=hx; obtain ⟨_,rfl⟩:=hy; rw [e3,e4]
 all_goals first|cases hx|cases hy
theorem renρ_old {a b:Nat} (ha:a<1000) (hb:b<1000) (p:Nm→Prop):∀ x:Nm,p x→1000≤x.id→renρ a b x=some x:=by
 intro x _ hx
 unfold renρ
 rw [show Nat.beq x.id b=false from Bool.eq_false_iff.2 (fun h=>by have:=Nat.eq_of_beq_eq_true h; omega),show Nat.beq x.id a=false from Bool.eq_false_iff.2 (fun h=>by have:=Nat.eq_of_beq_eq_true h; omega)]
 rfl
section
variable {f : Fun} {v : Int} {b a : Nat}
theorem mA_yes (h:(bif oA f v b (a+1) then !oA f v b a else false)=true):mA f v b a=lA f v b a++[(startF f.Blocks b+(a:Int),startF f.Blocks b+(a:Int)+1)]:=by
 unfold mA
 revert h
 cases oA f v b (a+1)<;>cases oA f v b a<;>simp
theorem mA_no (h:(bif oA f v b (a+1) then !oA f v b a else false)=false):mA f v b a=lA f v b a:=by
 unfold mA
 revert h
 cases oA f v b (a+1)<;>cases oA f v b a<;>simp
theorem nA_yes (hI:SpI f v b) (h:(bif oA f v b (a+1) then oA f v b a else false)=true):lA f v b (a+1)=setT (mA f v b a) (startF f.Blocks b+(a:Int)+1)∧0<(mA f v b a).length:=by
 cases h1:oA f v b (a+1) with
 | false=>rw [h1] at h; cases h
 | true =>
  rw [h1] at h
  have h2:oA f v b a=true:=h
  rw [mA_no (by rw [h1,h2]; rfl)]
  exact lA_on hI h1 h2
theorem nA_no (hI:SpI f v b) (k:SgK f v b) (h:(bif oA f v b (a+1) then oA f v b a else false)=false):lA f v b (a+1)=mA f v b a:=by
 cases h1:oA f v b (a+1) with
 | false=>rw [mA_no (by rw [h1]; rfl),lA_off k h1]
 | true =>
  rw [h1] at h
  have h2:oA f v b a=false:=h
  rw [mA_yes (by rw [h1,h2]; rfl),lA_new hI h1 h2]
theorem mA_len (hI:SpI f v b):(mA f v b a).length≤b+2:=by
 have:=lA_len (a:=a) hI
 unfold mA
 cases oA f v b (a+1)&&!oA f v b a<;>simp<;>omega
end
@[reducible] noncomputable def rowO (f:Fun) (n:Nat):HO:=.row 53 1 n (fun w=>[spV (spL f (w:Int) f.Blocks.length)])
set_option maxRecDepth 20000 in
set_option maxHeartbeats 16000000 in
theorem c_SpansOf (f:Fun) (m:Mch) (hok:Fun.ok f) (hC:Chkd f) (hc0:chkF f m=0) (h0:flwF f m=0):ACallIs B.P 22 [f.av,m.av] (.tup [spsV f,.i64 0]):=by
 have hc:=c_FuncFault f m hok
 rw [h0] at hc
 have hz5:=hC.e.siz
 have hvl:=hz5.values
 have hvm:f.Values.length≤maxLen:=by unfold maxLen; omega
 have hbl:=hz5.blocks
 have hbm:f.Blocks.length≤maxLen:=by unfold maxLen; omega
 refine ACallIs.enter B _ _ Tryz.func22 rfl rfl Tryz.ntmps22 Tryz.results22 rfl fun _=>?_
 repeat (first|apply zq|apply zb|apply zk)
 apply zr;intro _
 refine AWp.freezeObj 2 rfl rfl ?_
 refine AWp.freezeObj 3 rfl rfl ?_
 repeat (first|apply zq|apply zb|apply zk)
 apply zr
 refine CallX.pure hc rfl rfl rfl ?_
 intro _
 repeat (first|apply zq|apply zb|apply zk)
 apply zr;intro _
 repeat (first|apply zq|apply zb|apply zk)
 apply AWp.cond;apply zi<;>intro h1
 ·cases h1
 repeat (first|apply zq|apply zb|apply zk)
 apply zr;intro _
 repeat (first|apply zq|apply zb|apply zk)
 apply zr;intro _
 refine AWp.via (newρ 90) ⟨[(2,.ptr f.cells),(7,.sl 90 0),(8,.i64 (0:Nat))],[(90,rowO f 0)]⟩ ?_ ?_
 ·refine ⟨?_,?_,newρ_inj 90 _,newρ_old (by decide) _⟩
  ·repeat' (first|exact rfl|exact zt|apply zi)
  ·exact zi (zi ⟨_,_,_,rfl⟩ zt) zt
 repeat (first|apply zq|apply zb|apply zk)
 refine AWp.loop (fun v:Nat=>⟨[(2,.ptr f.cells),(7,.sl 90 v),(8,.i64 v)],[(90,rowO f v)]⟩) (fun v=>v≤f.Values.length) (fun v=>f.Values.length - v) 0 (Nat.zero_le _) ?_ ?_
 ·refine zi ?_ (zi ⟨_,_,rfl,rfl,zg⟩ (zi zt zt))
  repeat' (first|exact rfl|exact zt|apply zi)
 intro v hv0
 repeat (first|apply zq|apply zb|apply zk)
 apply zr;intro _
 repeat (first|apply zq|apply zb|apply zk)
 apply AWp.cond;apply zi<;>intro h1
 ·have hv:v<f.Values.length:=zd h1
  repeat (first|apply zq|apply zb|apply zk)
  apply zr
  refine CallX.lend (c_neededAt f hC hok (v:Int)) [(14,36)] rfl zt rfl ?_
  intro _
  refine AWp.freeze 36 (fun i=>[.bool (nedB f (v:Int) i)]) rfl (fun i hi=>rfl) ?_
  repeat (first|apply zq|apply zb|apply zk)
  apply zr;intro _
  repeat (first|apply zq|apply zb|apply zk)
  apply zr;intro _
  repeat (first|apply zq|apply zb|apply zk)
  apply zr;intro _
  refine AWp.adopt 10 91 55 2 rfl rfl rfl ?_
  repeat (first|apply zq|apply zb|apply zk)
  refine AWp.loop (fun b:Nat=>⟨[(2,.ptr f.cells),(7,.sl 90 v),(8,.i64 v),(9,.ro 1 f.Blocks.length (fun i=>[.bool (nedB f (v:Int) i)])),(10,.sl 91 (spL f (v:Int) b).length),(11,.bool (oB f (v:Int) b)),(12,.i64 b)],[(90,rowO f v),(91,rowP (spL f (v:Int) b))]⟩) (fun b=>b≤f.Blocks.length) (fun b=>f.Blocks.length - b) 0 (Nat.zero_le _) ?_ ?_
  ·refine zi ?_ (zi ⟨_,_,rfl,rfl,zg⟩ (zi zt (zi ⟨_,_,rfl,rfl,fun i hi=>absurd hi (Nat.not_lt_zero _)⟩ (zi zt zt))))
   repeat' (first|exact rfl|exact zt|apply zi)
  intro b hb0
  repeat (first|apply zq|apply zb|apply zk)
  apply zr;intro _
  repeat (first|apply zq|apply zb|apply zk)
  apply AWp.cond;apply zi<;>intro h2
  ·have hb:b<f.Blocks.length:=zd h2
   have hl40:(blkA f b).Instrs.length≤40:=hC.e.siz.instrs b hb
   obtain ⟨hs0,hs1⟩:=startF_bd hC b (by omega)
   obtain ⟨hR,hG,hN⟩:=sgK_of hc0 hC hb hv 0
   have hI:=spI_of hc0 hC hv b (by omega)
   have w1:IntKind.i64.wrap (2 * ((blkA f b).Instrs.length:Int))=2 * ((blkA f b).Instrs.length:Int):=wrap_in (by omega) (by omega)
   have w2:IntKind.i64.wrap (2+IntKind.i64.wrap (2 * ((blkA f b).Instrs.length:Int)))=(((2+2 * (blkA f b).Instrs.length):Nat):Int):=by rw [w1,wrap_in (by omega) (by omega)]; omega
   have hnm:(2+2 * (blkA f b).Instrs.length)≤maxLen:=by unfold maxLen; omega
   repeat (first|apply zq|apply zb|apply zk)
   apply zr
   repeat' (first|exact zt|apply zi|fail)
   all_goals first|exact fun _=>nn hb|skip
   intro _
   repeat (first|apply zq|apply zb|apply zk)
   apply zr;intro _
   repeat (first|apply zq|apply zb|apply zk)
   refine AWp.loop (fun a:Nat=>⟨[(2,.ptr f.cells),(7,.sl 90 v),(8,.i64 v),(9,.ro 1 f.Blocks.length (fun i=>[.bool (nedB f (v:Int) i)])),(10,.sl 91 (lA f (v:Int) b a).length),(11,.bool (oA f (v:Int) b a)),(12,.i64 b),(13,.i64 (((2+2 * (blkA f b).Instrs.length):Nat):Int)),(14,.i64 a)],[(90,rowO f v),(91,rowP (lA f (v:Int) b a))]⟩) (fun a=>a≤(2+2 * (blkA f b).Instrs.length)) (fun a=>(2+2 * (blkA f b).Instrs.length) - a) 0 (Nat.zero_le _) ?_ ?_
   ·refine zi ?_ (zi ⟨_,_,rfl,rfl,zg⟩ (zi zt (zi (rowP_subO rfl (lA_zero)) (zi zt zt))))
    repeat' (first|exact rfl|exact zt|exact slL_eq (lA_zero)|exact congrArg (fun z=>some (AV.i64 z)) (w2)|apply zi)
   intro a ha0
   repeat (first|apply zq|apply zb|apply zk)
   apply zr;intro _
   repeat (first|apply zq|apply zb|apply zk)
   apply AWp.cond;apply zi<;>intro h3
   ·have ha:a<(2+2 * (blkA f b).Instrs.length):=zd h3
    have hlen:=lA_len (a:=a) hI
    have hmen:=mA_len (a:=a) hI
    have w3:IntKind.i64.wrap (startF f.Blocks b+(a:Int))=startF f.Blocks b+(a:Int):=wrap_in (by omega) (by omega)
    have w4:IntKind.i64.wrap (startF f.Blocks b+(a:Int)+1)=startF f.Blocks b+(a:Int)+1:=wrap_in (by omega) (by omega)
    have hnp:=c_neededPoint f hC hok (nedB f (v:Int)) b hb (v:Int) (a:Int)
    rw [show (AV.bool (bif decide (0≤(spnE (blkA f b) (v:Int) (nedB f (v:Int) b) (anyB (fun k=>nedB f (v:Int) (edT f b k)) (blkA f b).Edges.length||argB (blkA f b) (v:Int))).1) then inB (a:Int) (spnE (blkA f b) (v:Int) (nedB f (v:Int) b) (anyB (fun k=>nedB f (v:Int) (edT f b k)) (blkA f b).Edges.length||argB (blkA f b) (v:Int))).1 (spnE (blkA f b) (v:Int) (nedB f (v:Int) b) (anyB (fun k=>nedB f (v:Int) (edT f b k)) (blkA f b).Edges.length||argB (blkA f b) (v:Int))).2 else false))=AV.bool (oA f (v:Int) b (a+1)) from congrArg AV.bool oA_now] at hnp
    repeat (first|apply zq|apply zb|apply zk)
    apply zr
    refine CallX.pure (c_startOf f b (by omega) hbm) rfl rfl rfl ?_
    intro _
    repeat (first|apply zq|apply zb|apply zk)
    apply zr
    refine CallX.pure hnp rfl rfl rfl ?_
    intro _
    refine AWp.weaken (s':=⟨[(2,.ptr f.cells),(7,.sl 90 v),(8,.i64 v),(9,.ro 1 f.Blocks.length (fun i=>[.bool (nedB f (v:Int) i)])),(10,.sl 91 (lA f (v:Int) b a).length),(11,.bool (oA f (v:Int) b a)),(12,.i64 b),(13,.i64 (((2+2 * (blkA f b).Instrs.length):Nat):Int)),(14,.i64 a),(15,.i64 (startF f.Blocks b+(a:Int))),(16,.bool (oA f (v:Int) b (a+1)))],[(90,rowO f v),(91,rowP (lA f (v:Int) b a))]⟩) ?_ ?_
    ·refine zi ?_ (zi ⟨_,_,rfl,rfl,zg⟩ (zi zt (zi ⟨_,_,rfl,rfl,zg⟩ (zi zt zt))))
     repeat' (first|exact rfl|exact zt|exact congrArg (fun z=>some (AV.i64 z)) w3|apply zi)
    repeat (first|apply zq|apply zb|apply zk)
    apply zr
    repeat' (first|exact zt|apply zi|fail)
    all_goals first|exact fun h=>h|exact gT|exact gF|exact gN|exact gA|skip
    intro _
    repeat (first|apply zq|apply zb|apply zk)
    refine AWp.mono (Q:=fun e t=>e=.normal∧∃ ρ,Via ρ ⟨[(2,.ptr f.cells),(7,.sl 90 v),(8,.i64 v),(9,.ro 1 f.Blocks.length (fun i=>[.bool (nedB f (v:Int) i)])),(10,.sl 91 (mA f (v:Int) b a).length),(11,.bool (oA f (v:Int) b a)),(12,.i64 b),(13,.i64 (((2+2 * (blkA f b).Instrs.length):Nat):Int)),(14,.i64 a),(15,.i64 (startF f.Blocks b+(a:Int))),(16,.bool (oA f (v:Int) b (a+1)))],[(90,rowO f v),(91,rowP (mA f (v:Int) b a))]⟩ t) ?_ ?_
    ·repeat (first|apply zq|apply zb|apply zk)
     apply AWp.cond;apply zi<;>intro h4
     ·have h4:(bif oA f (v:Int) b (a+1) then !oA f (v:Int) b a else false)=true:=h4
      have hM:=mA_yes h4
      repeat (first|apply zq|apply zb|apply zk)
      apply zr
      repeat' (first|exact zt|apply zi|fail)
      all_goals first|exact Nat.le_refl _|exact rfl|exact fun _ _=>rfl|(intro j hj; obtain rfl:j=0:=(by omega); exact rfl)|omega|skip
      intro _
      refine zi rfl (Exists.intro (renρ 91 76) ⟨?_,?_,renρ_inj 91 76 _,renρ_old (by decide) (by decide) _⟩)
      ·repeat' (first|exact rfl|exact zt|exact congrArg (fun n=>some (AV.sl 76 n)) (by rw [hM,List.length_append]; rfl)|apply zi)
      ·refine zi (zi ⟨_,⟨_,rfl,rfl,zt⟩,Or.inl ⟨_,rfl,zg⟩⟩ zt) (zi (zi ⟨_,⟨_,rfl,rfl,zt⟩,Or.inl ⟨_,congrArg (fun n=>HO.row 55 2 n _) (by rw [hM,List.length_append]; rfl),fun j hj=>?_⟩⟩ zt) zt)
       rw [hM] at hj ⊢
       refine Eq.trans ?_ (snocP_row hj).symm
       by_cases e2:j<(lA f (v:Int) b a).length
       ·exact Eq.trans (if_pos e2) (if_pos e2).symm
       ·have e3:j - (lA f (v:Int) b a).length=0:=by rw [List.length_append] at hj; simp at hj; omega
        refine Eq.trans (if_neg e2) (Eq.trans ?_ (if_neg e2).symm)
        show ([[AV.i64 (startF f.Blocks b+(a:Int)),AV.i64 (IntKind.i64.wrap (startF f.Blocks b+(a:Int)+1))]].getD (j - (lA f (v:Int) b a).length) []:List AV)=_
        rw [e3,w4]; rfl
     ·have h4:(bif oA f (v:Int) b (a+1) then !oA f (v:Int) b a else false)=false:=h4
      have hM:=mA_no h4
      refine AWp.skip ?_
      refine zi rfl (Exists.intro some ⟨?_,?_,fun a b c _ _ ha hb=>Option.some.inj (ha.trans hb.symm),fun a _ _=>rfl⟩)
      ·repeat' (first|exact rfl|exact zt|exact congrArg (fun n=>some (AV.sl 91 n)) (congrArg List.length hM).symm|apply zi)
      ·exact zi (zi ⟨_,⟨_,rfl,rfl,zt⟩,Or.inl ⟨_,rfl,zg⟩⟩ zt) (zi (zi ⟨_,⟨_,rfl,rfl,zt⟩,rowP_via hM⟩ zt) zt)
    rintro _ _ ⟨rfl,ρ,hs⟩
    refine AWp.via ρ _ hs ?_
    repeat (first|apply zq|apply zb|apply zk)
    apply zr
    repeat' (first|exact zt|apply zi|fail)
    all_goals first|exact fun h=>h|exact gT|exact gF|exact gN|exact gA|skip
    intro _
    repeat (first|apply zq|apply zb|apply zk)
    refine AWp.mono (Q:=fun e t=>e=.normal∧Sub ⟨[(2,.ptr f.cells),(7,.sl 90 v),(8,.i64 v),(9,.ro 1 f.Blocks.length (fun i=>[.bool (nedB f (v:Int) i)])),(10,.sl 91 (lA f (v:Int) b (a+1)).length),(11,.bool (oA f (v:Int) b a)),(12,.i64 b),(13,.i64 (((2+2 * (blkA f b).Instrs.length):Nat):Int)),(14,.i64 a),(15,.i64 (startF f.Blocks b+(a:Int))),(16,.bool (oA f (v:Int) b (a+1)))],[(90,rowO f v),(91,rowP (lA f (v:Int) b (a+1)))]⟩ t) ?_ ?_
    ·repeat (first|apply zq|apply zb|apply zk)
     apply AWp.cond;apply zi<;>intro h5
     ·have h5:(bif oA f (v:Int) b (a+1) then oA f (v:Int) b a else false)=true:=h5
      obtain ⟨hM,hp⟩:=nA_yes hI h5
      have hw:IntKind.i64.wrap (((mA f (v:Int) b a).length:Int) - 1)=((mA f (v:Int) b a).length:Int) - 1:=wrap_in (by omega) (by omega)
      have hidx:(IntKind.i64.wrap (((mA f (v:Int) b a).length:Int) - 1)).toNat=(mA f (v:Int) b a).length - 1:=by rw [hw]; omega
      repeat (first|apply zq|apply zb|apply zk)
      apply zr
      repeat' (first|exact zt|apply zi|fail)
      all_goals first|(rw [hw]; omega)|(rw [hidx]; omega)|(intro _; rw [hw]; omega)|(intro _; rw [hidx]; omega)|skip
      intro _
      refine zi rfl ?_
      refine zi ?_ (zi ⟨_,_,rfl,rfl,zg⟩ (zi zt (zi ⟨_,_,rfl,(by rw [hM,setT_len]),fun j hj=>?_⟩ (zi zt zt))))
      ·repeat' (first|exact rfl|exact zt|exact congrArg (fun n=>some (AV.sl 91 n)) (by rw [hM,setT_len])|apply zi)
      ·rw [hM,setT_len] at hj
       rw [hM]
       refine Eq.trans (setT_row hj) ?_
       show _=(if j=(IntKind.i64.wrap (((mA f (v:Int) b a).length:Int) - 1)).toNat then _ else _)
       rw [hidx]; simp only [w4]
       by_cases e2:j=(mA f (v:Int) b a).length - 1
       ·rw [if_pos e2,if_pos e2]; rfl
       ·rw [if_neg e2,if_neg e2]
     ·have h5:(bif oA f (v:Int) b (a+1) then oA f (v:Int) b a else false)=false:=h5
      have hM:=nA_no hI hG h5
      refine AWp.skip ?_
      refine zi rfl ?_
      refine zi ?_ (zi ⟨_,_,rfl,rfl,zg⟩ (zi zt (zi (rowP_subO rfl hM) (zi zt zt))))
      repeat' (first|exact rfl|exact zt|exact slL_eq hM|apply zi)
    rintro _ _ ⟨rfl,hs⟩
    refine AWp.weaken hs ?_
    repeat (first|apply zq|apply zb|apply zk)
    apply zr;intro _
    repeat (first|apply zq|apply zb|apply zk)
    apply zr;intro _
    refine round_end (a+1) ha ?_ (by omega)
    refine zi ?_ (zi ⟨_,_,rfl,rfl,zg⟩ (zi zt (zi ⟨_,_,rfl,rfl,zg⟩ (zi zt zt))))
    repeat' (first|exact rfl|exact zt|exact zw ha hnm|apply zi)
   have ha3:¬ (a:Int)<(2+2 * (blkA f b).Instrs.length):=of_decide_eq_false h3
   obtain rfl:a=(2+2 * (blkA f b).Instrs.length):=by omega
   obtain ⟨hE1,hE2⟩:=lA_end (f:=f) (v:=(v:Int)) (b:=b) hG rfl
   apply ze
   repeat (first|apply zq|apply zb|apply zk)
   apply zr;intro _
   refine round_end (b+1) hb ?_ (by omega)
   refine zi ?_ (zi ⟨_,_,rfl,rfl,zg⟩ (zi zt (zi (rowP_subO rfl hE1.symm) (zi zt zt))))
   repeat' (first|exact rfl|exact zt|exact zw hb hbm|exact slL_eq hE1.symm|exact congrArg (fun z=>some (AV.bool z)) hE2|apply zi)
  have hb3:¬ (b:Int)<f.Blocks.length:=of_decide_eq_false h2
  obtain rfl:b=f.Blocks.length:=by omega
  apply ze
  refine AWp.freeze 91 (fun i=>spC ((spL f (v:Int) f.Blocks.length).getD i default)) rfl (fun i hi=>rfl) ?_
  repeat (first|apply zq|apply zb|apply zk)
  apply zr
  repeat' (first|exact zt|apply zi|fail)
  all_goals first|exact Nat.le_refl _|exact rfl|exact fun _ _=>rfl|(intro j hj; obtain rfl:j=0:=(by omega); exact rfl)|omega|skip
  intro _
  refine AWp.rename 93 90 rfl rfl ?_
  repeat (first|apply zq|apply zb|apply zk)
  apply zr;intro _
  refine round_end (v+1) hv ?_ (by omega)
  refine zi ?_ (zi ⟨_,_,rfl,rfl,fun i hi=>?_⟩ (zi zt zt))
  ·repeat' (first|exact rfl|exact zt|exact zw hv hvm|apply zi)
  ·by_cases e2:i<v
   ·exact (if_pos e2).symm
   ·obtain rfl:i=v:=by omega
    refine Eq.symm (Eq.trans (if_neg e2) ?_)
    show ([[spV (spL f (i:Int) f.Blocks.length)]].getD (i - i) []:List AV)=_
    rw [Nat.sub_self]; rfl
 have hv3:¬ (v:Int)<f.Values.length:=of_decide_eq_false h1
 obtain rfl:v=f.Values.length:=by omega
 apply ze
 refine AWp.freeze 90 (fun v=>[spV (spL f (v:Int) f.Blocks.length)]) rfl (fun i hi=>rfl) ?_
 repeat (first|apply zq|apply zb|apply zk)
 apply zr;intro _
 refine AWp.ret ⟨Or.inl rfl,rfl,?_⟩
 intro _
 rfl
theorem c_SpansOfNo (f:Fun) (m:Mch) (hok:Fun.ok f) (h0:flwF f m≠0):ACallIs B.P 22 [f.av,m.av] (.tup [nilV,.i64 (flwF f m)]):=by
 refine ACallIs.enter B _ _ Tryz.func22 rfl rfl Tryz.ntmps22 Tryz.results22 rfl fun _=>?_
 repeat (first|apply zq|apply zb|apply zk)
 apply zr;intro _
 refine AWp.freezeObj 2 rfl rfl ?_
 refine AWp.freezeObj 3 rfl rfl ?_
 repeat (first|apply zq|apply zb|apply zk)
 apply zr
 refine CallX.pure (c_FuncFault f m hok) rfl rfl rfl ?_
 intro _
 repeat (first|apply zq|apply zb|apply zk)
 apply zr;intro _
 repeat (first|apply zq|apply zb|apply zk)
 apply AWp.cond;apply zi<;>intro h1
 ·repeat (first|apply zq|apply zb|apply zk)
  apply zr;intro _
  refine AWp.ret ⟨Or.inl rfl,rfl,?_⟩
  intro _
  rfl
 exact absurd (show (flwF f m != 0)=false from h1) (by simpa using h0)
end Go.Proofs.YtbmccmbgnkbmiaaGreat

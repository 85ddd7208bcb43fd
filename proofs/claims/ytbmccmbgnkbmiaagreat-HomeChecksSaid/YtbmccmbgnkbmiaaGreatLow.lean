/- Contracts of the smallest functions. Conditions: as each says. -/
import Derived.Test.YtbmccmbgnkbmiaaGreatTab
set_option linter.unusedVariables false
set_option linter.unusedSimpArgs false
namespace Go.Proofs.YtbmccmbgnkbmiaaGreat
open Go Go.Abs Go.RowKit
theorem bif_if {α:Type} (b:Bool) (x y:α):(bif b then x else y)=if b=true then x else y:=by cases b<;>rfl
def firstF (g:Nat→Int):Nat→Int
 | 0=>0
 | n+1=>if g 0≠0 then g 0 else firstF (fun i=>g (i+1)) n
theorem firstF_hit:∀ {n:Nat} {g:Nat→Int} {k:Nat},k<n→(∀ j,j<k→g j=0)→g k≠0→firstF g n=g k
 | 0,_,_,h,_,_=>by omega
 | n+1,g,0,_,_,h=>by unfold firstF; rw [if_pos h]
 | n+1,g,k+1,hk,hj,h=>by
  unfold firstF
  rw [if_neg (by simpa using hj 0 (by omega))]
  exact firstF_hit (g:=fun i=>g (i+1)) (by omega) (fun j hj'=>hj (j+1) (by omega)) h
theorem firstF_none:∀ {n:Nat} {g:Nat→Int},(∀ j,j<n→g j=0)→firstF g n=0
 | 0,_,_=>rfl
 | n+1,g,h=>by
  unfold firstF
  rw [if_neg (by simpa using h 0 (by omega))]
  exact firstF_none fun j hj=>h (j+1) (by omega)
theorem firstF_zero:∀ {n:Nat} {g:Nat→Int},firstF g n=0→∀ j,j<n→g j=0
 | 0,_,_,_,h=>by omega
 | n+1,g,h,j,hj=>by
  unfold firstF at h
  split at h
  ·rename_i hne; exact absurd h hne
  ·rename_i h0
   cases j with
   | zero=>simpa using h0
   | succ j=>exact firstF_zero (g:=fun i=>g (i+1)) h j (by omega)
def inB (n lo hi:Int):Bool:=decide (lo≤n)&&decide (n≤hi)
def apartB (a b:Opd):Bool :=
 if a.Kind=1∧b.Kind=1 then a.Value != b.Value
 else if a.Kind=2∧b.Kind=2 then true
 else if a.Kind=2 then b.Late||!a.Late
 else a.Late||!b.Late
def machF (m:Mch):Int:=if inB m.r0 2 10&&inB m.r1 2 10 then 0 else 2
theorem c_In (n low high:Int):ACallIs B.P 23 [.i64 n,.i64 low,.i64 high] (.bool (inB n low high)):=by
 refine ACallIs.enter B _ _ Tryz.func23 rfl rfl Tryz.ntmps23 Tryz.results23 rfl fun _=>?_
 repeat' (first
  | apply zq|apply zb|apply zk|apply ze
  | apply zr|refine AWp.draw mixed (by kernel_rfl) ?_
  | refine AWp.cond (zi (fun h=>?_) (fun h=>?_))
  | refine AWp.ret ⟨Or.inl rfl,rfl,?_⟩
  | exact zt|apply zi|intro _)
 all_goals first|assumption|simp_all [tupOf,inB]
theorem c_Meet1 (a b:Opd) (h2:¬ a.Kind=2∨b.Kind=2):ACallIs B.P 228 [a.av,b.av] (.bool (apartB a b)):=by
 refine ACallIs.enter B _ _ Tryz.func228 rfl rfl Tryz.ntmps228 Tryz.results228 rfl fun _=>?_
 repeat' (first
  | apply zq|apply zb|apply zk|apply ze
  | apply zr|refine AWp.draw mixed (by kernel_rfl) ?_
  | refine AWp.cond (zi (fun h=>?_) (fun h=>?_))
  | refine AWp.ret ⟨Or.inl rfl,rfl,?_⟩
  | exact zt|apply zi|intro _)
 all_goals first|assumption|(exfalso; simp_all; done)|(simp_all [tupOf,apartB]; done)|skip
theorem c_Meet (a b:Opd):ACallIs B.P 228 [a.av,b.av] (.bool (apartB a b)):=by
 by_cases h2:¬ a.Kind=2∨b.Kind=2
 ·exact c_Meet1 a b h2
 have h3:a.Kind=2∧¬ b.Kind=2:=by simp at h2; exact h2
 have hm:=c_Meet1 b a (.inl h3.2)
 refine ACallIs.enter B _ _ Tryz.func228 rfl rfl Tryz.ntmps228 Tryz.results228 rfl fun _=>?_
 repeat' (first
  | apply zq|apply zb|apply zk|apply ze
  | apply zr|refine AWp.draw mixed (by kernel_rfl) ?_
  | refine AWp.cond (zi (fun h=>?_) (fun h=>?_))
  | refine AWp.ret ⟨Or.inl rfl,rfl,?_⟩
  | refine CallX.pure (hm) rfl rfl rfl ?_|refine CallK.intro (fun _=>hm) ?_
  | exact zt|apply zi|intro _)
 all_goals first|assumption|(exfalso; simp_all; done)|(simp_all [tupOf,apartB]; done)|skip
theorem c_Apart (a b:Opd):ACallIs B.P 128 [a.av,b.av] (.bool (apartB a b)):=by
 refine ACallIs.enter B _ _ Tryz.func128 rfl rfl Tryz.ntmps128 Tryz.results128 rfl fun _=>?_
 repeat' (first
  | apply zq|apply zb|apply zk|apply ze
  | apply zr|refine AWp.draw mixed (by kernel_rfl) ?_
  | refine AWp.cond (zi (fun h=>?_) (fun h=>?_))
  | refine AWp.ret ⟨Or.inl rfl,rfl,?_⟩
  | exact zt|apply zi|intro _)
 all_goals first|assumption|(exfalso; simp_all; done)|(simp_all [tupOf,apartB]; done)|skip
theorem c_CheckMachine (m:Mch):ACallIs B.P 138 [m.av] (.i64 (machF m)):=by
 refine ACallIs.enter B _ _ Tryz.func138 rfl rfl Tryz.ntmps138 Tryz.results138 rfl fun _=>?_
 refine AWp.seq (AWp.region ?_)
 intro _
 refine AWp.seq (AWp.seq (AWp.region ?_))
 intro _
 refine AWp.block (AWp.loop (fun k:Nat=>⟨[(6,.agg m.cells),(7,.i64 k)],[(1,.cells m.cells)]⟩) (fun k=>k≤2∧(1≤k→inB m.r0 2 10=true)∧(2≤k→inB m.r1 2 10=true)) (fun k=>2 - k) 0 (by simp) ?_ ?_)
 ·repeat' (first|exact rfl|exact zt|apply zi)
 intro k hk
 obtain rfl|rfl|rfl:k=0∨k=1∨k=2:=by omega
 all_goals
  repeat' (first
   | apply zq|apply zb|apply zk|apply ze
   | apply zr|refine AWp.draw mixed (by kernel_rfl) ?_
   | refine AWp.cond (zi (fun h=>?_) (fun h=>?_))
   | refine AWp.ret ⟨Or.inl rfl,rfl,?_⟩
   | exact zt|apply zi|intro _)
 all_goals first|assumption|(exfalso; simp_all; done)|(simp; done)|(show (_:Bool)=_; simp_all; done)|skip
 ·simp [tupOf,machF,inB] at *; omega
 ·refine round_end 1 ?_ ?_ ?_
  ·simp [inB] at *; omega
  ·repeat' (first|exact rfl|exact zt|apply zi)
  ·omega
 ·simp [tupOf,machF,inB] at *; omega
 ·refine round_end 2 ?_ ?_ ?_
  ·simp [inB] at *; omega
  ·repeat' (first|exact rfl|exact zt|apply zi)
  ·omega
 ·simp [tupOf,machF,inB] at *; omega
theorem c_MachineFault (m:Mch):ACallIs B.P 65 [m.av] (.i64 (machF m)):=by
 refine ACallIs.enter B _ _ Tryz.func65 rfl rfl Tryz.ntmps65 Tryz.results65 rfl fun _=>?_
 refine AWp.seq (AWp.region ?_)
 intro _
 refine AWp.seq (AWp.seq (AWp.region ?_))
 intro _
 refine AWp.block (AWp.loop (fun k:Nat=>⟨[(3,.i64 k),(1,.obj 1 0)],[(1,.cells m.cells)]⟩) (fun k=>k≤2∧(1≤k→inB m.r0 2 10=true)∧(2≤k→inB m.r1 2 10=true)) (fun k=>2 - k) 0 (by simp) ?_ ?_)
 ·repeat' (first|exact rfl|exact zt|apply zi)
 intro k hk
 obtain rfl|rfl|rfl:k=0∨k=1∨k=2:=by omega
 all_goals
  repeat' (first
   | apply zq|apply zb|apply zk|apply ze
   | apply zr|refine AWp.draw mixed (by kernel_rfl) ?_
   | refine AWp.cond (zi (fun h=>?_) (fun h=>?_))
   | refine AWp.ret ⟨Or.inl rfl,rfl,?_⟩
   | refine CallX.pure (c_In _ _ _) rfl rfl rfl ?_|refine CallK.intro (fun _=>c_In _ _ _) ?_
   | exact zt|apply zi|intro _)
 all_goals first|assumption|(exfalso; simp_all; done)|(simp; done)|(show (_:Bool)=_; simp_all; done)|skip
 ·simp [tupOf,machF,inB] at *; omega
 ·refine round_end 1 ?_ ?_ ?_
  ·simp [inB] at *; omega
  ·repeat' (first|exact rfl|exact zt|apply zi)
  ·omega
 ·simp [tupOf,machF,inB] at *; omega
 ·refine round_end 2 ?_ ?_ ?_
  ·simp [inB] at *; omega
  ·repeat' (first|exact rfl|exact zt|apply zi)
  ·omega
 ·simp [tupOf,machF,inB] at *; omega
theorem take_succ_getD {α:Type} [Inhabited α] {l:List α} {k:Nat} (h:k<l.length):l.take (k+1)=l.take k++[l.getD k default]:=by
 rw [List.take_add_one,List.getD_eq_getElem?_getD,List.getElem?_eq_getElem h]; rfl
def stepSt (n:Int) (b:Blk):Int:=IntKind.i64.wrap (IntKind.i64.wrap (n+2)+IntKind.i64.wrap (2 * (b.Instrs.length:Int)))
def startF (bs:List Blk) (k:Nat):Int:=(bs.take k).foldl stepSt 0
def startsF (bs:List Blk):List Int:=(List.range (bs.length+1)).map (startF bs)
theorem startF_succ {bs:List Blk} {k:Nat} (h:k<bs.length):startF bs (k+1)=stepSt (startF bs k) (bs.getD k default):=by
 unfold startF; rw [take_succ_getD h,List.foldl_append]; rfl
theorem startsF_get {bs:List Blk} {k:Nat} (h:k≤bs.length):(startsF bs).getD k default=startF bs k:=by
 unfold startsF; rw [List.getD_eq_getElem?_getD,List.getElem?_map,List.getElem?_range (by omega)]; rfl
theorem startsF_len (bs:List Blk):(startsF bs).length=bs.length+1:=by simp [startsF]
theorem c_Starts (f:Fun) (hb:f.Blocks.length * 72≤140737488351232):ACallIs B.P 40 [f.av] (ints (startsF f.Blocks)):=by
 refine ACallIs.enter B _ _ Tryz.func40 rfl rfl Tryz.ntmps40 Tryz.results40 rfl fun _=>?_
 refine AWp.seq (AWp.region ?_)
 intro _
 refine AWp.seq (AWp.region ?_)
 intro _
 refine AWp.seq (AWp.seq (AWp.region ?_))
 intro _
 refine AWp.rename 6 3 rfl rfl ?_
 refine AWp.block (AWp.loop (fun k:Nat=>⟨[(1,.obj 1 0),(3,.sl 3 (k+1)),(8,roL 3 Blk.cells f.Blocks),(9,.i64 f.Blocks.length),(10,.i64 k)],[(1,.cells f.cells),(3,.row 3 1 (k+1) (fun i=>intC (startF f.Blocks i)))]⟩) (fun k=>k≤f.Blocks.length) (fun k=>f.Blocks.length - k) 0 (by simp) ?_ ?_)
 ·apply zi
  ·repeat' (first|exact rfl|exact zt|apply zi)
  ·refine zi rfl (zi ?_ (zi ⟨_,_,rfl,rfl,fun i hi=>?_⟩ (zi zt zt)))
   ·repeat' (first|exact rfl|exact zt|apply zi)
   ·have e:i=0:=by omega
    subst e; rfl
 intro k hk
 refine AWp.seq (AWp.region ?_)
 intro _
 refine AWp.seq (AWp.cond (zi (fun h=>?_) (fun h=>?_)))
 ·refine AWp.skip ?_
  have hk':k<f.Blocks.length:=by have:=of_decide_eq_true h; omega
  refine AWp.seq (AWp.block (AWp.seq (AWp.region ?_)))
  refine zi (fun _=>nn (hk')) ?_
  intro _
  refine AWp.quietFirst (.q 0 (.q 1 (.q 2 (.q 3 (.q 4 (.q 5 (.q 6 (.q 7 (.q 8 (.q 9 (.q 10 (.q 11 (.q 12 (.c 13 false (.c 14 true (.q 15 .fin) .no) .no)))))))))))))) [0,1,2,3,4,5,6,7,8,9,10,11,12,15] [3,5] mixed (by kernel_rfl) ?_
  have hw:IntKind.i64.wrap (((k+1:Nat):Int) - 1)=k:=by rw [wrap_in (by omega) (by omega)]; omega
  refine zi (fun _=>?_) ?_
  ·show 0≤IntKind.i64.wrap (((k+1:Nat):Int) - 1)∧IntKind.i64.wrap (((k+1:Nat):Int) - 1)<((k+1:Nat):Int)
   rw [hw]; omega
  refine zi (fun _=>?_) ?_
  ·show (IntKind.i64.wrap (((k+1:Nat):Int) - 1)).toNat<k+1
   rw [hw]; omega
  refine zi ?_ zt
  refine zi ?_ zt
  refine zi (Nat.le_refl _) (zi (fun i hi=>?_) (zi rfl (zi (by omega) ?_)))
  ·have e:i=0:=by omega
   subst e; rfl
  intro _
  refine AWp.rename 28 3 rfl rfl ?_
  apply zr;intro _
  refine round_end (k+1) (by omega) ?_ (by omega)
  have hlen:f.Blocks.length≤maxLen:=by unfold maxLen; omega
  apply zi
  ·repeat' (first|exact rfl|exact zt|apply zi)
   exact zw hk' hlen
  ·refine zi rfl (zi ?_ (zi ⟨_,_,rfl,rfl,fun i hi=>?_⟩ (zi zt zt)))
   ·repeat' (first|exact rfl|exact zt|apply zi)
   ·dsimp only
    by_cases e:i<k+1
    ·rw [if_pos e]
    ·have e2:i=k+1:=by omega
     subst e2
     rw [if_neg e,startF_succ hk',Nat.sub_self]
     show _=[AV.i64 _]
     refine congrArg (fun z=>[AV.i64 z]) ?_
     show _=IntKind.i64.wrap (IntKind.i64.wrap (startF f.Blocks ((IntKind.i64.wrap (((k+1:Nat):Int) - 1)).toNat)+2)+IntKind.i64.wrap (2 * (((f.Blocks.getD k default).Instrs.length:Nat):Int)))
     rw [hw]; rfl
 have hk3:¬ (k:Int)<f.Blocks.length:=of_decide_eq_false h
 obtain rfl:k=f.Blocks.length:=by omega
 apply ze
 refine AWp.seq (AWp.region ?_)
 intro _
 refine AWp.freeze 3 (fun i=>intC ((startsF f.Blocks).getD i default)) rfl (fun i hi=>by rw [startsF_get (by omega)]) ?_
 refine AWp.ret ⟨Or.inl rfl,rfl,?_⟩
 intro _
 show AV.ro 1 (f.Blocks.length+1) _=AV.ro 1 (startsF f.Blocks).length _
 rw [startsF_len]
theorem c_startOf (f:Fun) (b:Nat) (hb:b≤f.Blocks.length) (hlen:f.Blocks.length≤maxLen):ACallIs B.P 49 [f.av,.i64 b] (.i64 (startF f.Blocks b)):=by
 refine ACallIs.enter B _ _ Tryz.func49 rfl rfl Tryz.ntmps49 Tryz.results49 rfl fun _=>?_
 refine AWp.seq (AWp.region ?_)
 intro _
 refine AWp.seq (AWp.region ?_)
 intro _
 refine AWp.seq (AWp.seq (AWp.region ?_))
 intro _
 refine AWp.block (AWp.loop (fun k:Nat=>⟨[(1,.i64 b),(2,.obj 2 0),(5,.i64 (startF f.Blocks k)),(6,.i64 k)],[(2,.cells f.cells)]⟩) (fun k=>k≤b) (fun k=>b - k) 0 (by simp) ?_ ?_)
 ·repeat' (first|exact rfl|exact zt|apply zi)
 intro k hk
 refine AWp.seq (AWp.seq (AWp.region ?_))
 intro _
 apply AWp.cond;apply zi<;>intro h
 ·refine AWp.skip ?_
  have hk':k<b:=by have:=of_decide_eq_true h; omega
  refine AWp.seq (AWp.block (AWp.region ?_))
  refine zi (fun _=>nn ((by omega))) ?_
  intro _
  apply zr;intro _
  refine round_end (k+1) (by omega) ?_ (by omega)
  apply zi
  ·repeat' (first|exact rfl|exact zt|apply zi)
   ·exact congrArg (fun z=>some (AV.i64 z)) (by rw [startF_succ (by omega:k<f.Blocks.length)]; rfl)
   ·exact zw (show k<f.Blocks.length by omega) hlen
  ·repeat' (first|exact rfl|exact zt|apply zi)
 have hk3:¬ (k:Int)<b:=of_decide_eq_false h
 obtain rfl:k=b:=by omega
 apply ze
 refine AWp.seq (AWp.region ?_)
 intro _
 refine AWp.ret ⟨Or.inl rfl,rfl,?_⟩
 intro _
 rfl
end Go.Proofs.YtbmccmbgnkbmiaaGreat

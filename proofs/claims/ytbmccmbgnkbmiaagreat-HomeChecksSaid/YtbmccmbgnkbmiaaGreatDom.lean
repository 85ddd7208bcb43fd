/- The tree of a checked function's blocks: order, idoms, depths; flow.Dominators and the document's TreeOf. Condition: the sizes, the edges' goals. -/
import Derived.Test.YtbmccmbgnkbmiaaGreatFlw
set_option linter.unusedVariables false
set_option linter.unusedSimpArgs false
namespace Go.Proofs.YtbmccmbgnkbmiaaGreat
open Go Go.Abs Go.RowKit Go.Abs.Gra
def isN (L:List Nat) (v:Nat) (j:Nat):Bool:=(v:Int)==((L.getD j 0:Nat):Int)
theorem anyB_mem_nat (L:List Nat) (p:Nat→Bool):anyB (fun j=>p (L.getD j 0)) L.length=decide (∃ x∈L,p x=true):=by
 by_cases h:∃ x∈L,p x=true
 ·obtain ⟨x,hx,hp⟩:=h
  rw [decide_eq_true ⟨x,hx,hp⟩]
  obtain ⟨j,hj,rfl⟩:=List.getElem_of_mem hx
  exact anyB_hit hj (by rw [List.getD_eq_getElem?_getD,List.getElem?_eq_getElem hj]; exact hp)
 ·rw [decide_eq_false h]
  refine anyB_none fun j hj=>?_
  rw [List.getD_eq_getElem?_getD,List.getElem?_eq_getElem hj]
  cases hp:p L[j] with
  | false=>exact hp
  | true=>exact absurd ⟨_,List.getElem_mem hj,hp⟩ h
theorem anyB_isN (L : List Nat) (v:Nat):anyB (isN L v) L.length=decide (v∈L):=by
 have:=anyB_mem_nat L fun x=>(v:Int)==(x:Int)
 refine this.trans (decide_eq_decide.2 ⟨fun ⟨x,hx,e⟩=>?_,fun h=>⟨v,h,by simp⟩⟩)
 have e : v = x := by have e:(v:Int)=x:=by simpa using e
                      omega
 exact e▸hx
set_option maxHeartbeats 1000000 in
theorem c_IndexN (L:List Nat) (v:Nat) (hlen:L.length≤maxLen):ACallIs B.P 137 [natsL L,.i64 v] (.i64 (idxF (isN L v) L.length)):=by
 refine ACallIs.enter B _ _ Tryz.func137 rfl rfl Tryz.ntmps137 Tryz.results137 rfl fun _=>?_
 refine AWp.seq (AWp.region ?_)
 intro _
 refine AWp.seq (AWp.seq (AWp.region ?_))
 intro _
 refine AWp.block (AWp.loop (fun k:Nat=>⟨[(0,natsL L),(1,.i64 v),(7,.i64 L.length),(8,.i64 k)],[]⟩) (fun k=>k≤L.length∧∀ j,j<k→isN L v j=false) (fun k=>L.length - k) 0 ⟨Nat.zero_le _,fun j hj=>absurd hj (by omega)⟩ ?_ ?_)
 ·repeat' (first|exact rfl|exact zt|apply zi)
 intro k hk
 obtain ⟨hk,hg⟩:=hk
 repeat' (first
  | apply zq|apply zb|apply zk|apply ze
  | apply zr|refine AWp.draw mixed (by kernel_rfl) ?_
  | refine AWp.cond (zi (fun h=>?_) (fun h=>?_))
  | refine AWp.ret ⟨Or.inl rfl,rfl,?_⟩
  | exact zt|apply zi|intro _)
 all_goals first|assumption|exact tupI (idxF_none (n:=L.length) (fun j hj=>hg j (by grind))).symm|refine tupI (idxF_hit (k:=k) (n:=L.length) (by grind) hg ?_).symm|refine round_end (k+1) ⟨by grind,upto hg ?_⟩ (by repeat' (first|exact rfl|exact zt|exact zw (show k<L.length from by grind) hlen|apply zi)) (by grind)|skip
 all_goals first|assumption|((try clear hg); (try simp only [Int.toNat_natCast,Bool.cond_true_left,Bool.cond_false_right,Bool.or_eq_true,Bool.and_eq_true,Bool.or_eq_false_iff,Bool.and_eq_false_iff,beq_eq_false_iff_ne,Bool.not_eq_true',Bool.not_eq_false',decide_eq_true_eq,decide_eq_false_iff_not,beq_iff_eq,isN] at *); (try simp only [bif_if] at *); ((skip)<;>grind))
theorem c_ContainsN (L:List Nat) (v:Nat) (hlen:L.length≤maxLen):ACallIs B.P 82 [natsL L,.i64 v] (.bool (decide (v∈L))):=by
 refine ACallIs.enter B _ _ Tryz.func82 rfl rfl Tryz.ntmps82 Tryz.results82 rfl fun _=>?_
 repeat' (first
  | apply zq|apply zb|apply zk|apply ze
  | apply zr|refine AWp.draw mixed (by kernel_rfl) ?_
  | refine AWp.cond (zi (fun h=>?_) (fun h=>?_))
  | refine AWp.ret ⟨Or.inl rfl,rfl,?_⟩
  | refine CallX.pure (c_IndexN L v hlen) rfl rfl rfl ?_|refine CallK.intro (fun _=>c_IndexN L v hlen) ?_
  | exact zt|apply zi|intro _)
 exact tupB ((idxF_any _ _).trans (anyB_isN L v))
open Classical in
set_option maxHeartbeats 1000000 in
theorem c_headed1 {n:Nat} {pl:Nat→Nat} {d:Nat→Int} (hd:WF n pl d) (hall:∀ y,y<n→0≤d y) (a p:Nat) (hp:p<n) :
  ACallIs B.P 189 [.i64 p,.ptr [.ro 1 n (fun i=>intC (idmR d i))],.ptr [.i64 a]] (.bool (decide (Anc d a p))):=by
 refine ACallIs.enter B _ _ Tryz.func189 rfl rfl Tryz.ntmps189 Tryz.results189 rfl fun _=>?_
 repeat (first|apply zq|apply zb|apply zk)
 apply zr;intro _
 repeat (first|apply zq|apply zb|apply zk)
 apply zr
 refine CallX.pure (c_dominates hd hall a p hp) rfl rfl rfl ?_
 intro _
 refine AWp.ret ⟨Or.inl rfl,rfl,?_⟩
 intro _
 rfl
@[reducible] noncomputable def hdFn (n:Nat) (d:Nat→Int) (a:Nat):AV:=.fn 189 [.ptr [.ro 1 n (fun i=>intC (idmR d i))],.ptr [.i64 a]]
open Classical in
set_option maxHeartbeats 1000000 in
theorem c_IndexHd {n:Nat} {pl:Nat→Nat} {d:Nat→Int} (hd:WF n pl d) (hall:∀ y,y<n→0≤d y) (a:Nat) (L:List Nat) (hL:∀ x∈L,x<n) (hlen:L.length≤maxLen) :
  ACallIs B.P 225 [natsL L,hdFn n d a] (.i64 (idxF (fun j=>decide (Anc d a (L.getD j 0))) L.length)):=by
 refine ACallIs.enter B _ _ Tryz.func225 rfl rfl Tryz.ntmps225 Tryz.results225 rfl fun _=>?_
 repeat (first|apply zq|apply zb|apply zk)
 apply zr;intro _
 repeat (first|apply zq|apply zb|apply zk)
 apply zr;intro _
 repeat (first|apply zq|apply zb|apply zk)
 refine AWp.loop (fun k:Nat=>⟨[(0,natsL L),(1,hdFn n d a),(7,.i64 L.length),(8,.i64 k)],[]⟩) (fun k=>k≤L.length∧∀ j,j<k→decide (Anc d a (L.getD j 0))=false) (fun k=>L.length - k) 0 ⟨Nat.zero_le _,fun j hj=>absurd hj (by omega)⟩ ?_ ?_
 ·repeat' (first|exact rfl|exact zt|apply zi)
 rintro k ⟨hk,hg⟩
 repeat (first|apply zq|apply zb|apply zk)
 apply zr;intro _
 repeat (first|apply zq|apply zb|apply zk)
 apply AWp.cond;apply zi<;>intro h
 ·have hk':k<L.length:=zd h
  have hx:L.getD k 0<n:=hL _ (by rw [List.getD_eq_getElem?_getD,List.getElem?_eq_getElem hk']; exact List.getElem_mem hk')
  repeat (first|apply zq|apply zb|apply zk)
  apply zr;intro _
  repeat (first|apply zq|apply zb|apply zk)
  apply zr
  refine zi (fun _=>nn (hk')) ?_
  refine CallX.pure (c_headed1 hd hall a (L.getD k 0) hx) rfl rfl rfl ?_
  intro _
  repeat (first|apply zq|apply zb|apply zk)
  apply AWp.cond;apply zi<;>intro h2
  ·repeat (first|apply zq|apply zb|apply zk)
   apply zr;intro _
   refine AWp.ret ⟨Or.inl rfl,rfl,?_⟩
   intro _
   exact tupI (idxF_hit hk' hg h2).symm
  ·repeat (first|apply zq|apply zb|apply zk)
   apply zr;intro _
   exact round_end (k+1) ⟨hk',upto hg h2⟩ (by repeat' (first|exact rfl|exact zt|exact zw hk' hlen|apply zi)) (by omega)
 ·have hk3:¬ (k:Int)<L.length:=of_decide_eq_false h
  obtain rfl:k=L.length:=by omega
  apply ze
  repeat (first|apply zq|apply zb|apply zk)
  apply zr;intro _
  refine AWp.ret ⟨Or.inl rfl,rfl,?_⟩
  intro _
  exact tupI (idxF_none hg).symm
open Classical in
theorem c_ContainsHd {n:Nat} {pl:Nat→Nat} {d:Nat→Int} (hd:WF n pl d) (hall:∀ y,y<n→0≤d y) (a:Nat) (L:List Nat) (hL:∀ x∈L,x<n) (hlen:L.length≤maxLen) :
  ACallIs B.P 188 [natsL L,hdFn n d a] (.bool (decide (∃ x∈L,Anc d a x))):=by
 refine ACallIs.enter B _ _ Tryz.func188 rfl rfl Tryz.ntmps188 Tryz.results188 rfl fun _=>?_
 repeat (first|apply zq|apply zb|apply zk)
 apply zr;intro _
 repeat (first|apply zq|apply zb|apply zk)
 apply zr
 refine CallX.pure (c_IndexHd hd hall a L hL hlen) rfl rfl rfl ?_
 intro _
 refine AWp.ret ⟨Or.inl rfl,rfl,?_⟩
 intro _
 refine tupB ((idxF_any _ _).trans ((anyB_mem_nat L fun x=>decide (Anc d a x)).trans (decide_eq_decide.2 ?_)))
 simp only [decide_eq_true_eq]
structure TrOk (f:Fun) (d:Nat→Int):Prop where
 e:EdgOk f
 o:OrdOk (scF f) f.Blocks.length
 d:Fin_ f.Blocks.length (rank (scF f) f.Blocks.length) (preds (scF f) f.Blocks.length) (scF f) d
theorem TrOk.wf {f:Fun} {d:Nat→Int} (h:TrOk f d):WF f.Blocks.length (rank (scF f) f.Blocks.length) d:=h.d.inv.wf
theorem TrOk.all {f:Fun} {d:Nat→Int} (h:TrOk f d):∀ y,y<f.Blocks.length→0≤d y:=h.d.done
theorem TrOk.dom {f:Fun} {d:Nat→Int} (h:TrOk f d) {a y:Nat} (hy:y<f.Blocks.length):Anc d a y↔¬ Rch (scF f) a y:=h.d.dom h.o.g hy
theorem TrOk.pl {f:Fun} {d:Nat→Int} (h:TrOk f d) (b:Nat):(preds (scF f) f.Blocks.length b).length≤48:=by
 have:=prK_len (sc:=scF f) (t:=b) (a:=f.Blocks.length) (k:=0) fun c hc=>h.e.le3 c hc
 rw [prK_zero] at this
 have:=h.e.siz.blocks
 omega
theorem TrOk.head {f:Fun} {d:Nat→Int} (h:TrOk f d) (a:Nat):(∃ x∈preds (scF f) f.Blocks.length a,Anc d a x)↔Headed (scF f) f.Blocks.length a :=
 ⟨fun ⟨x,hx,hA⟩=>⟨x,(mem_preds.1 hx).1,(mem_preds.1 hx).2,(h.dom (mem_preds.1 hx).1).1 hA⟩,fun ⟨x,h1,h2,h3⟩=>⟨x,mem_preds.2 ⟨h1,h2⟩,(h.dom h1).2 h3⟩⟩
open Classical in
set_option maxHeartbeats 1000000 in
theorem c_headed (f:Fun) {d:Nat→Int} (h:TrOk f d) (a:Nat) (ha:a<f.Blocks.length) :
  ACallIs B.P 129 [f.av,.ro 1 f.Blocks.length (fun i=>intC (idmR d i)),.i64 a] (.bool (decide (Headed (scF f) f.Blocks.length a))):=by
 refine ACallIs.enter B _ _ Tryz.func129 rfl rfl Tryz.ntmps129 Tryz.results129 rfl fun _=>?_
 repeat (first|apply zq|apply zb|apply zk)
 apply zr;intro _
 refine AWp.freezeObj 3 rfl rfl ?_
 refine AWp.freezeObj 4 rfl rfl ?_
 refine AWp.freezeObj 5 rfl rfl ?_
 repeat (first|apply zq|apply zb|apply zk)
 refine AWp.quietFirst (.q 0 (.q 2 (.q 5 (.c 1 false (.q 3 (.q 4 (.c 6 true (.q 7 .fin) .no))) .no)))) [0,2,3,4,5,7] [] mixed (by kernel_rfl) ?_
 refine zi (CallX.pure (c_into f h.e) rfl rfl rfl ?_) zt
 refine zi (fun _=>nn ha) ?_
 refine zi (CallX.pure (c_ContainsHd h.wf h.all a (preds (scF f) f.Blocks.length a) (fun x hx=>(mem_preds.1 hx).1) (by have:=h.pl a; unfold maxLen; omega)) rfl rfl rfl ?_) zt
 intro _
 refine AWp.ret ⟨Or.inl rfl,rfl,?_⟩
 intro _
 exact tupB (decide_eq_decide.2 (h.head a))
theorem appN_row {A R:List Nat} {i:Nat}:natC ((A++R).getD i 0)=if i<A.length then natC (A.getD i 0) else natC (R.getD (i - A.length) 0):=by
 by_cases h:i<A.length
 ·rw [if_pos h,List.getD_eq_getElem?_getD,List.getD_eq_getElem?_getD,List.getElem?_append_left h]
 ·rw [if_neg h,List.getD_eq_getElem?_getD,List.getD_eq_getElem?_getD,List.getElem?_append_right (by omega)]
@[reducible] def predV (f:Fun):AV:=.ro 1 f.Blocks.length (fun b=>[natsL (preds (scF f) f.Blocks.length b)])
@[reducible] def idmV (f:Fun) (d:Nat→Int):AV:=.ro 1 f.Blocks.length (fun i=>intC (idmR d i))
open Classical in
noncomputable def bkK (f:Fun) (a k:Nat):List Nat:=((preds (scF f) f.Blocks.length a).take k).filter fun p=>decide (¬ Rch (scF f) (a:Int) p)
open Classical in
theorem bkK_hit {f:Fun} {a k:Nat} (hk:k<(preds (scF f) f.Blocks.length a).length) (h:¬ Rch (scF f) (a:Int) ((preds (scF f) f.Blocks.length a).getD k 0)):bkK f a (k+1)=bkK f a k++[(preds (scF f) f.Blocks.length a).getD k 0]:=by
 unfold bkK; rw [take_succ_0 hk,List.filter_append,List.filter_cons,if_pos (decide_eq_true h)]; rfl
open Classical in
theorem bkK_miss {f:Fun} {a k:Nat} (hk:k<(preds (scF f) f.Blocks.length a).length) (h:Rch (scF f) (a:Int) ((preds (scF f) f.Blocks.length a).getD k 0)):bkK f a (k+1)=bkK f a k:=by
 unfold bkK; rw [take_succ_0 hk,List.filter_append,List.filter_cons,if_neg (by simpa using h)]; simp
open Classical in
theorem bkK_le {f:Fun} {a k:Nat}:(bkK f a k).length≤(preds (scF f) f.Blocks.length a).length:=by
 unfold bkK
 refine Nat.le_trans (List.length_filter_le _ _) ?_
 rw [List.length_take]; exact Nat.min_le_right _ _
theorem bkK_all {f:Fun} {a:Nat}:bkK f a (preds (scF f) f.Blocks.length a).length=backs (scF f) f.Blocks.length a:=by
 unfold bkK backs; rw [List.take_length]
open Classical in
set_option maxHeartbeats 2000000 in
theorem c_loop (f : Fun) {d : Nat→Int} (h:TrOk f d) (a:Nat) (ha:a<f.Blocks.length) :
  ACallIs B.P 130 [f.av,idmV f d,.i64 a] (natsL (loopF (scF f) f.Blocks.length 48 a)):=by
 have hb:=h.e.siz.blocks
 have hlen:=h.pl a
 have hlm:(preds (scF f) f.Blocks.length a).length≤maxLen:=by unfold maxLen; omega
 refine ACallIs.enter B _ _ Tryz.func130 rfl rfl Tryz.ntmps130 Tryz.results130 rfl fun _=>?_
 repeat (first|apply zq|apply zb|apply zk)
 apply zr;intro _
 refine AWp.freezeObj 3 rfl rfl ?_
 repeat (first|apply zq|apply zb|apply zk)
 apply zr
 refine CallX.pure (c_into f h.e) rfl rfl rfl ?_
 intro _
 repeat (first|apply zq|apply zb|apply zk)
 apply zr;intro _
 repeat (first|apply zq|apply zb|apply zk)
 apply zr;intro _
 repeat (first|apply zq|apply zb|apply zk)
 apply zr
 refine zi (fun _=>nn ha) ?_
 intro _
 refine AWp.adopt 9 50 3 1 rfl rfl rfl ?_
 repeat (first|apply zq|apply zb|apply zk)
 refine AWp.loop (fun k:Nat=>⟨[(1,idmV f d),(2,.i64 a),(7,predV f),(8,.sl 16 [a].length),(9,.sl 50 (bkK f a k).length),(20,natsL (preds (scF f) f.Blocks.length a)),(21,.i64 (preds (scF f) f.Blocks.length a).length),(22,.i64 k)],[(16,rowN [a]),(50,rowN (bkK f a k))]⟩) (fun k=>k≤(preds (scF f) f.Blocks.length a).length) (fun k=>(preds (scF f) f.Blocks.length a).length - k) 0 (Nat.zero_le _) ?_ ?_
 ·refine zi ?_ (zi ⟨_,_,rfl,rfl,fun i hi=>?_⟩ (zi zt (zi ⟨_,_,rfl,rfl,fun i hi=>absurd hi (Nat.not_lt_zero _)⟩ (zi zt zt))))
  ·repeat' (first|exact rfl|exact zt|apply zi)
  ·have e:i=0:=by simp at hi; exact hi
   subst e; rfl
 intro k hk
 have hbl:=bkK_le (f:=f) (a:=a) (k:=k)
 repeat (first|apply zq|apply zb|apply zk)
 apply zr;intro _
 repeat (first|apply zq|apply zb|apply zk)
 apply AWp.cond;apply zi<;>intro h1
 ·have hk':k<(preds (scF f) f.Blocks.length a).length:=zd h1
  have hx:(preds (scF f) f.Blocks.length a).getD k 0<f.Blocks.length:=(mem_preds.1 (by rw [List.getD_eq_getElem?_getD,List.getElem?_eq_getElem hk']; exact List.getElem_mem hk')).1
  repeat (first|apply zq|apply zb|apply zk)
  apply zr
  refine zi (fun _=>nn (hk')) ?_
  intro _
  repeat (first|apply zq|apply zb|apply zk)
  apply zr
  refine CallX.pure (c_dominates h.wf h.all a _ hx) rfl rfl rfl ?_
  intro _
  repeat (first|apply zq|apply zb|apply zk)
  apply AWp.cond;apply zi<;>intro h2
  ·have hS:=bkK_hit (f:=f) (a:=a) hk' ((h.dom hx).1 (of_decide_eq_true h2))
   have hSl:(bkK f a (k+1)).length=(bkK f a k).length+1:=by rw [hS]; simp
   repeat (first|apply zq|apply zb|apply zk)
   apply zr
   refine zi (Nat.le_refl _) (zi (fun i hi=>?_) (zi rfl (zi (by omega) ?_)))
   ·have e:i=0:=by omega
    subst e; rfl
   intro _
   refine AWp.rename 33 50 rfl rfl ?_
   repeat (first|apply zq|apply zb|apply zk)
   apply zr;intro _
   refine round_end (k+1) hk' ?_ (by omega)
   refine zi ?_ (zi ⟨_,_,rfl,rfl,zg⟩ (zi zt (zi ⟨_,_,rfl,hSl.symm,fun i hi=>?_⟩ (zi zt zt))))
   ·repeat' (first|exact rfl|exact zt|exact congrArg (fun n=>some (AV.sl 50 n)) hSl.symm|exact zw hk' hlm|apply zi)
   ·rw [hS] at hi ⊢
    exact snocN_row hi
  ·have hS:=bkK_miss (f:=f) (a:=a) hk' (Classical.byContradiction fun hn=>of_decide_eq_false h2 ((h.dom hx).2 hn))
   repeat (first|apply zq|apply zb|apply zk)
   apply zr;intro _
   refine round_end (k+1) hk' ?_ (by omega)
   rw [hS]
   refine zi ?_ (zi ⟨_,_,rfl,rfl,zg⟩ (zi zt (zi ⟨_,_,rfl,rfl,zg⟩ (zi zt zt))))
   repeat' (first|exact rfl|exact zt|exact zw hk' hlm|apply zi)
 have hk3:¬ (k:Int)<(preds (scF f) f.Blocks.length a).length:=of_decide_eq_false h1
 obtain rfl:k=(preds (scF f) f.Blocks.length a).length:=by omega
 clear hk hk3 h1
 have hI0:=loopF_start (B:=48) h.pl ha
 rw [bkK_all] at hbl ⊢
 apply ze
 refine AWp.rename 16 51 rfl rfl ?_
 refine AWp.rename 50 62 rfl rfl ?_
 repeat (first|apply zq|apply zb|apply zk)
 refine AWp.loop (fun s:List Nat×List Nat=>⟨[(7,predV f),(8,.sl 51 s.1.length),(9,.sl 62 s.2.length)],[(51,rowN s.1),(62,rowN s.2)]⟩) (fun s=>LpI (scF f) f.Blocks.length a 48 s.1 s.2∧∃ k,lpM f.Blocks.length 48 s.1 s.2≤k∧run (scF f) f.Blocks.length k s.1 s.2=loopF (scF f) f.Blocks.length 48 a) (fun s=>lpM f.Blocks.length 48 s.1 s.2) ([a],backs (scF f) f.Blocks.length a) ⟨hI0,_,Nat.le_refl _,rfl⟩ ?_ ?_
 ·refine zi ?_ (zi ⟨_,_,rfl,rfl,zg⟩ (zi zt (zi ⟨_,_,rfl,rfl,zg⟩ (zi zt zt))))
  repeat' (first|exact rfl|exact zt|apply zi)
 rintro ⟨P,S⟩ ⟨hI,fl,hfl,hrun⟩
 simp only at hI hfl hrun
 have hPn:P.length≤f.Blocks.length:=(nodup_len _ P hI.nodup hI.lt).1
 have hSn:=hI.len
 have hSn2:S.length≤16 * 48:=Nat.le_trans hSn (Nat.mul_le_mul_right _ (by omega))
 repeat (first|apply zq|apply zb|apply zk)
 apply zr;intro _
 repeat (first|apply zq|apply zb|apply zk)
 apply AWp.cond;apply zi<;>intro h3
 ·rcases List.eq_nil_or_concat S with rfl|⟨S,b,rfl⟩
  ·exact absurd (of_decide_eq_true h3) (by simp)
  rw [List.concat_eq_append] at *
  clear h3
  have hbn:b<f.Blocks.length:=hI.ltS b (by simp)
  have hl1:(S++[b]).length=S.length+1:=by simp
  have hw:IntKind.i64.wrap (((S++[b]).length:Int) - 1)=(S.length:Int):=by rw [hl1,wrap_in (by omega) (by omega)]; omega
  have hg:(S++[b]).getD S.length 0=b:=by rw [List.getD_eq_getElem?_getD]; simp
  repeat (first|apply zq|apply zb|apply zk)
  apply zr
  refine zi (fun _=>zi (by rw [hw]; omega) (by rw [hw]; show (S.length:Int)<((S++[b]).length:Int); omega)) ?_
  refine zi (by rw [hw]; simp) ?_
  intro _
  refine AWp.weaken (s':=⟨[(7,predV f),(8,.sl 51 P.length),(9,.sl 62 (S++[b]).length),(12,.i64 b)],[(51,rowN P),(62,rowN (S++[b]))]⟩) ?_ ?_
  ·refine zi ?_ (zi ⟨_,_,rfl,rfl,zg⟩ (zi zt (zi ⟨_,_,rfl,rfl,zg⟩ (zi zt zt))))
   repeat' (first|exact rfl|exact zt|apply zi)
   all_goals exact congrArg (fun z:Nat=>some (AV.i64 (z:Int))) (show (S++[b]).getD (IntKind.i64.wrap (((S++[b]).length:Int) - 1)).toNat 0=b by rw [hw,Int.toNat_natCast,hg])
  repeat (first|apply zq|apply zb|apply zk)
  apply zr
  refine zi (fun _=>zi (by rw [hw]; omega) (by rw [hw]; omega)) ?_
  intro _
  refine AWp.weaken (s':=⟨[(7,predV f),(8,.sl 51 P.length),(9,.sl 62 S.length),(12,.i64 b)],[(51,rowN P),(62,rowN (S++[b]))]⟩) ?_ ?_
  ·refine zi ?_ (zi ⟨_,_,rfl,rfl,zg⟩ (zi zt (zi ⟨_,_,rfl,rfl,zg⟩ (zi zt zt))))
   repeat' (first|exact rfl|exact zt|exact congrArg (fun n=>some (AV.sl 62 n)) (show (IntKind.i64.wrap (((S++[b]).length:Int) - 1)).toNat=S.length by rw [hw,Int.toNat_natCast])|apply zi)
  refine AWp.trunc 9 62 (k:=S.length) rfl rfl rfl ?_
  refine AWp.weaken (s':=⟨[(7,predV f),(8,.sl 51 P.length),(9,.sl 9 S.length),(12,.i64 b)],[(51,rowN P),(9,rowN S)]⟩) ?_ ?_
  ·refine zi ?_ (zi ⟨_,_,rfl,rfl,zg⟩ (zi zt (zi ⟨_,_,rfl,rfl,fun i hi=>?_⟩ (zi zt zt))))
   ·repeat' (first|exact rfl|exact zt|apply zi)
   ·show natC (S.getD i 0)=natC ((S++[b]).getD i 0)
    rw [appN_row,if_pos hi]
  refine AWp.rename 9 50 rfl rfl ?_
  repeat (first|apply zq|apply zb|apply zk)
  apply zr
  refine CallX.pure (c_ContainsN P b (by unfold maxLen; omega)) rfl rfl rfl ?_
  intro _
  repeat (first|apply zq|apply zb|apply zk)
  apply AWp.cond;apply zi<;>intro h4
  ·have hbP : ¬ b ∈ P := by have h4:(!decide (b∈P))=true:=h4
                            simpa using h4
   have hR:=hI.room hbP
   have hpb:=h.pl b
   repeat (first|apply zq|apply zb|apply zk)
   apply zr
   refine zi (Nat.le_refl _) (zi (fun i hi=>?_) (zi rfl (zi (by omega) ?_)))
   ·have e:i=0:=by omega
    subst e; rfl
   intro _
   refine AWp.rename 56 51 rfl rfl ?_
   repeat (first|apply zq|apply zb|apply zk)
   apply zr
   refine zi (fun _=>nn hbn) ?_
   refine zi (fun i hi=>rfl) (zi rfl (zi (by rw [Int.toNat_natCast]; omega) ?_))
   intro _
   have hM:=lpM_new (n:=f.Blocks.length) (B:=48) (P:=P) (S:=S) (b:=b) hR hpb
   have hP1:(P++[b]).length=P.length+1:=by simp
   have hS1:(S++preds (scF f) f.Blocks.length b).length=S.length+(preds (scF f) f.Blocks.length b).length:=List.length_append
   repeat (first|apply zq|apply zb|apply zk)
   refine Exists.intro (P++[b],S++preds (scF f) f.Blocks.length b) (zi ⟨hI.new hbP hpb,?_⟩ (zi ?_ hM))
   ·obtain ⟨fl',rfl⟩:∃ t,fl=t+1:=⟨fl - 1,by omega⟩
    exact ⟨fl',(show lpM f.Blocks.length 48 (P++[b]) (S++preds (scF f) f.Blocks.length b)≤fl' by omega),by rw [← hrun,run_new hbP]⟩
   ·refine zi ?_ (zi ⟨_,_,rfl,hP1.symm,fun i hi=>snocN_row hi⟩ (zi zt (zi ⟨_,_,rfl,hS1.symm,fun i hi=>appN_row⟩ (zi zt zt))))
    repeat' (first|exact rfl|exact zt|exact congrArg (fun n=>some (AV.sl 51 n)) hP1.symm|exact congrArg (fun n=>some (AV.sl 62 n)) hS1.symm|apply zi)
  ·have hbP : b ∈ P := by have h4:(!decide (b∈P))=false:=h4
                          simpa using h4
   have hM:=lpM_old (n:=f.Blocks.length) (B:=48) (P:=P) (S:=S) (b:=b)
   refine AWp.rename 50 62 rfl rfl ?_
   repeat (first|apply zq|apply zb|apply zk)
   refine Exists.intro (P,S) (zi ⟨hI.old hbP,?_⟩ (zi ?_ hM))
   ·obtain ⟨fl',rfl⟩:∃ t,fl=t+1:=⟨fl - 1,by omega⟩
    exact ⟨fl',(show lpM f.Blocks.length 48 P S≤fl' by omega),by rw [← hrun,run_old hbP]⟩
   ·refine zi ?_ (zi ⟨_,_,rfl,rfl,zg⟩ (zi zt (zi ⟨_,_,rfl,rfl,zg⟩ (zi zt zt))))
    repeat' (first|exact rfl|exact zt|apply zi)
 ·have h3:decide ((S.length:Int)>0)=false:=h3
  have h3:=of_decide_eq_false h3
  have hS0:S=[]:=List.length_eq_zero_iff.1 (by omega)
  subst hS0
  rw [run_nil] at hrun
  subst hrun
  apply ze
  repeat (first|apply zq|apply zb|apply zk)
  apply zr;intro _
  refine AWp.freeze 51 (fun i=>natC ((loopF (scF f) f.Blocks.length 48 a).getD i 0)) rfl (fun i hi=>rfl) ?_
  refine AWp.ret ⟨Or.inl rfl,rfl,?_⟩
  intro _
  rfl
@[reducible] noncomputable def depV (f:Fun):AV:=.ro 1 f.Blocks.length (fun x=>natC (depF (scF f) f.Blocks.length f.Blocks.length x))
@[reducible] noncomputable def treeV (f:Fun) (d:Nat→Int):AV:=.agg [natsL (ordF (scF f) f.Blocks.length),idmV f d,depV f]
@[reducible] def nilV:AV:=.val (.slice none 0 0)
@[reducible] noncomputable def depR (f:Fun) (k:Nat):HO:=rowG f.Blocks.length (fun x=>((depF (scF f) f.Blocks.length k x:Nat):Int))
@[reducible] noncomputable def depL (f:Fun) (L:List Nat) (k j:Nat):HO:=rowG f.Blocks.length (fun x=>((depG (scF f) f.Blocks.length L k j x:Nat):Int))
open Classical in
set_option maxHeartbeats 2000000 in
theorem c_tree (f:Fun) {d:Nat→Int} (h:TrOk f d):ACallIs B.P 77 [f.av] (treeV f d):=by
 have hb:=h.e.siz.blocks
 have hbl:f.Blocks.length≤maxLen:=by unfold maxLen; omega
 refine ACallIs.enter B _ _ Tryz.func77 rfl rfl Tryz.ntmps77 Tryz.results77 rfl fun _=>?_
 repeat (first|apply zq|apply zb|apply zk)
 apply zr;intro _
 refine AWp.freezeObj 1 rfl rfl ?_
 repeat (first|apply zq|apply zb|apply zk)
 refine AWp.mono (Q:=fun e s=>e=.normal∧Sub ⟨[(1,.ptr f.cells),(2,.obj 2 0),(3,.obj 3 0)],[(2,.cells [nilV,nilV,nilV]),(3,.cells [natsL (ordF (scF f) f.Blocks.length),nilV,.sl 12 f.Blocks.length]),(12,rowG f.Blocks.length (fun _=>0))]⟩ s) ?_ ?_
 ·refine AWp.quietFirst (.q 0 (.q 2 (.q 3 (.q 4 (.c 1 false (.c 5 false (.c 6 true (.c 7 false (.c 8 true .fin .no) .no) (.c 7 false (.c 6 true (.c 8 true .fin .no) .no) .no)) (.c 7 false (.c 5 false (.c 6 true (.c 8 true .fin .no) .no) .no) .no)) (.c 5 false (.c 1 false (.c 6 true (.c 7 false (.c 8 true .fin .no) .no) (.c 7 false (.c 6 true (.c 8 true .fin .no) .no) .no)) (.c 7 false (.c 1 false (.c 6 true (.c 8 true .fin .no) .no) .no) .no)) (.c 7 false (.c 1 false (.c 5 false (.c 6 true (.c 8 true .fin .no) .no) .no) (.c 5 false (.c 1 false (.c 6 true (.c 8 true .fin .no) .no) .no) .no)) .no))))))) [0,2,3,4] [] mixed (by kernel_rfl) ?_
  repeat' (first|exact zt|apply zi|refine CallX.pure (c_order f h.e) rfl rfl rfl ?_)
  all_goals first|exact rfl|exact Int.natCast_nonneg _|(simp only [Int.toNat_natCast]; omega)|skip
  all_goals
   intro _
   refine zi rfl (zi ?_ (zi rfl (zi ?_ (zi rfl (zi ?_ (zi ⟨_,_,rfl,rfl,zg⟩ (zi zt zt)))))))
   all_goals repeat' (first|exact rfl|exact zt|apply zi)
 rintro _ _ ⟨rfl,hs⟩
 refine AWp.weaken hs ?_
 repeat (first|apply zq|apply zb|apply zk)
 apply zr
 refine CallX.pure (c_idoms f h.e h.o h.d) rfl rfl rfl ?_
 intro _
 repeat (first|apply zq|apply zb|apply zk)
 apply zr;intro _
 repeat (first|apply zq|apply zb|apply zk)
 refine AWp.loop (fun k:Nat=>⟨[(1,.ptr f.cells),(2,.obj 2 0),(3,.obj 3 0),(21,.i64 f.Blocks.length),(22,.i64 k)],[(2,.cells [nilV,nilV,nilV]),(3,.cells [natsL (ordF (scF f) f.Blocks.length),idmV f d,.sl 12 f.Blocks.length]),(12,depR f k)]⟩) (fun k=>k≤f.Blocks.length) (fun k=>f.Blocks.length - k) 0 (Nat.zero_le _) ?_ ?_
 ·refine zi ?_ (zi rfl (zi ?_ (zi rfl (zi ?_ (zi ⟨_,_,rfl,rfl,zg⟩ (zi zt zt))))))
  all_goals repeat' (first|exact rfl|exact zt|apply zi)
 intro k hk
 repeat (first|apply zq|apply zb|apply zk)
 apply zr;intro _
 repeat (first|apply zq|apply zb|apply zk)
 apply AWp.cond;apply zi<;>intro h1
 ·have hk':k<f.Blocks.length:=zd h1
  repeat (first|apply zq|apply zb|apply zk)
  apply zr;intro _
  repeat (first|apply zq|apply zb|apply zk)
  apply zr
  refine CallX.pure (c_headed f h k hk') rfl rfl rfl ?_
  intro _
  repeat (first|apply zq|apply zb|apply zk)
  apply AWp.cond;apply zi<;>intro h2
  ·have hn:¬ Headed (scF f) f.Blocks.length k:=by
    have h2:(!decide (Headed (scF f) f.Blocks.length k))=true:=h2
    simpa using h2
   apply ze
   repeat (first|apply zq|apply zb|apply zk)
   apply zr;intro _
   refine round_end (k+1) hk' ?_ (by omega)
   refine zi ?_ (zi rfl (zi ?_ (zi rfl (zi ?_ (zi ⟨_,_,rfl,rfl,fun i hi=>?_⟩ (zi zt zt))))))
   ·repeat' (first|exact rfl|exact zt|exact zw hk' hbl|apply zi)
   ·repeat' (first|exact rfl|exact zt|apply zi)
   ·repeat' (first|exact rfl|exact zt|apply zi)
   ·exact congrArg (fun n:Nat=>intC (n:Int)) (depF_no hn i)
  have hh:Headed (scF f) f.Blocks.length k:=by
   have h2:(!decide (Headed (scF f) f.Blocks.length k))=false:=h2
   simpa using h2
  have hL:=loopF_ok (B:=48) h.pl hk'
  have hLl:=(nodup_len _ _ hL.nodup hL.lt).1
  have hLm:(loopF (scF f) f.Blocks.length 48 k).length≤maxLen:=by omega
  repeat (first|apply zq|apply zb|apply zk)
  apply zr
  refine CallX.pure (c_loop f h k hk') rfl rfl rfl ?_
  intro _
  repeat (first|apply zq|apply zb|apply zk)
  refine AWp.loop (fun j:Nat=>⟨[(1,.ptr f.cells),(2,.obj 2 0),(3,.obj 3 0),(21,.i64 f.Blocks.length),(22,.i64 k),(35,natsL (loopF (scF f) f.Blocks.length 48 k)),(36,.i64 (loopF (scF f) f.Blocks.length 48 k).length),(37,.i64 j)],[(2,.cells [nilV,nilV,nilV]),(3,.cells [natsL (ordF (scF f) f.Blocks.length),idmV f d,.sl 12 f.Blocks.length]),(12,depL f (loopF (scF f) f.Blocks.length 48 k) k j)]⟩) (fun j=>j≤(loopF (scF f) f.Blocks.length 48 k).length) (fun j=>(loopF (scF f) f.Blocks.length 48 k).length - j) 0 (Nat.zero_le _) ?_ ?_
  ·refine zi ?_ (zi rfl (zi ?_ (zi rfl (zi ?_ (zi ⟨_,_,rfl,rfl,fun i hi=>?_⟩ (zi zt zt))))))
   ·repeat' (first|exact rfl|exact zt|apply zi)
   ·repeat' (first|exact rfl|exact zt|apply zi)
   ·repeat' (first|exact rfl|exact zt|apply zi)
   ·exact congrArg (fun n:Nat=>intC (n:Int)) depG_zero
  intro j hj
  repeat (first|apply zq|apply zb|apply zk)
  apply zr;intro _
  repeat (first|apply zq|apply zb|apply zk)
  apply AWp.cond;apply zi<;>intro h3
  ·have hj':j<(loopF (scF f) f.Blocks.length 48 k).length:=zd h3
   have hx:(loopF (scF f) f.Blocks.length 48 k).getD j 0<f.Blocks.length:=hL.lt _ (by rw [List.getD_eq_getElem?_getD,List.getElem?_eq_getElem hj']; exact List.getElem_mem hj')
   have hle:=depG_le (sc:=scF f) (n:=f.Blocks.length) (L:=loopF (scF f) f.Blocks.length 48 k) (k:=k) (j:=j) (x:=(loopF (scF f) f.Blocks.length 48 k).getD j 0)
   repeat (first|apply zq|apply zb|apply zk)
   apply zr
   refine zi (fun _=>nn (hj')) ?_
   intro _
   repeat (first|apply zq|apply zb|apply zk)
   apply zr
   repeat' apply zi
   all_goals first|exact fun h=>h|exact gT|exact gF|exact fun _=>nn hx|exact fun _=>hx|exact hx|skip
   intro _
   repeat (first|apply zq|apply zb|apply zk)
   apply zr;intro _
   refine round_end (j+1) hj' ?_ (by omega)
   refine zi ?_ (zi rfl (zi ?_ (zi rfl (zi ?_ (zi ⟨_,_,rfl,rfl,fun i hi=>?_⟩ (zi zt zt))))))
   ·repeat' (first|exact rfl|exact zt|exact zw hj' hLm|apply zi)
   ·repeat' (first|exact rfl|exact zt|apply zi)
   ·repeat' (first|exact rfl|exact zt|apply zi)
   ·show intC ((depG (scF f) f.Blocks.length (loopF (scF f) f.Blocks.length 48 k) k (j+1) i:Nat):Int)=if i=(((loopF (scF f) f.Blocks.length 48 k).getD j 0:Nat):Int).toNat then intC (IntKind.i64.wrap (((depG (scF f) f.Blocks.length (loopF (scF f) f.Blocks.length 48 k) k j (((loopF (scF f) f.Blocks.length 48 k).getD j 0:Nat):Int).toNat:Nat):Int)+1)) else intC ((depG (scF f) f.Blocks.length (loopF (scF f) f.Blocks.length 48 k) k j i:Nat):Int)
    rw [Int.toNat_natCast,depG_step hL.nodup hj']
    by_cases e:i=(loopF (scF f) f.Blocks.length 48 k).getD j 0
    ·have hle2:=depG_le (sc:=scF f) (n:=f.Blocks.length) (L:=loopF (scF f) f.Blocks.length 48 k) (k:=k) (j:=j) (x:=i)
     rw [if_pos e,if_pos e,← e,wrap_in (by omega) (by omega)]
     rfl
    ·rw [if_neg e,if_neg e]
  have hj3:¬ (j:Int)<(loopF (scF f) f.Blocks.length 48 k).length:=of_decide_eq_false h3
  obtain rfl:j=(loopF (scF f) f.Blocks.length 48 k).length:=by omega
  apply ze
  repeat (first|apply zq|apply zb|apply zk)
  apply zr;intro _
  refine round_end (k+1) hk' ?_ (by omega)
  refine zi ?_ (zi rfl (zi ?_ (zi rfl (zi ?_ (zi ⟨_,_,rfl,rfl,fun i hi=>?_⟩ (zi zt zt))))))
  ·repeat' (first|exact rfl|exact zt|exact zw hk' hbl|apply zi)
  ·repeat' (first|exact rfl|exact zt|apply zi)
  ·repeat' (first|exact rfl|exact zt|apply zi)
  ·exact (congrArg (fun n:Nat=>intC (n:Int)) (depG_all (B:=48) h.pl hk' hh i)).symm
 have hk3:¬ (k:Int)<f.Blocks.length:=of_decide_eq_false h1
 obtain rfl:k=f.Blocks.length:=by omega
 apply ze
 refine AWp.freeze 12 (fun x=>natC (depF (scF f) f.Blocks.length f.Blocks.length x)) rfl (fun i hi=>rfl) ?_
 repeat (first|apply zq|apply zb|apply zk)
 apply zr;intro _
 refine AWp.ret ⟨Or.inl rfl,rfl,?_⟩
 intro _
 rfl
theorem c_Dominators (f:Fun) (m:Mch) (hok:Fun.ok f) {d:Nat→Int} (h:TrOk f d) (h0:flwF f m=0):ACallIs B.P 38 [f.av,m.av] (.tup [treeV f d,.i64 0]):=by
 have hc:=c_FlowCheck f m hok
 rw [h0] at hc
 refine ACallIs.enter B _ _ Tryz.func38 rfl rfl Tryz.ntmps38 Tryz.results38 rfl fun _=>?_
 repeat (first|apply zq|apply zb|apply zk)
 apply zr;intro _
 refine AWp.freezeObj 2 rfl rfl ?_
 refine AWp.freezeObj 3 rfl rfl ?_
 repeat (first|apply zq|apply zb|apply zk)
 apply zr
 refine CallX.pure hc rfl rfl rfl ?_
 intro _
 repeat (first|apply zq|apply zb|apply zk)
 apply zr;intro _
 repeat (first|apply zq|apply zb|apply zk)
 apply AWp.cond;apply zi<;>intro h1
 ·cases h1
 repeat (first|apply zq|apply zb|apply zk)
 apply zr
 refine CallX.pure (c_tree f h) rfl rfl rfl ?_
 intro _
 refine AWp.ret ⟨Or.inl rfl,rfl,?_⟩
 intro _
 rfl
theorem c_DominatorsNo (f:Fun) (m:Mch) (hok:Fun.ok f) (h0:flwF f m≠0):ACallIs B.P 38 [f.av,m.av] (.tup [.agg [nilV,nilV,nilV],.i64 (flwF f m)]):=by
 refine ACallIs.enter B _ _ Tryz.func38 rfl rfl Tryz.ntmps38 Tryz.results38 rfl fun _=>?_
 repeat (first|apply zq|apply zb|apply zk)
 apply zr;intro _
 refine AWp.freezeObj 2 rfl rfl ?_
 refine AWp.freezeObj 3 rfl rfl ?_
 repeat (first|apply zq|apply zb|apply zk)
 apply zr
 refine CallX.pure (c_FlowCheck f m hok) rfl rfl rfl ?_
 intro _
 repeat (first|apply zq|apply zb|apply zk)
 apply zr;intro _
 repeat (first|apply zq|apply zb|apply zk)
 apply AWp.cond;apply zi<;>intro h1
 ·repeat (first|apply zq|apply zb|apply zk)
  apply zr;intro _
  refine AWp.ret ⟨Or.inl rfl,rfl,?_⟩
  intro _
  rfl
 exact absurd (show (flwF f m != 0)=false from h1) (by simpa using h0)
theorem gN {g b:Bool} (h:(g&&!b)=true):(g&&(b==false))=true:=by cases g<;>cases b<;>simp_all
theorem trOk_of {f:Fun} {m:Mch} (h0:flwF f m=0):∃ d,TrOk f d:=by
 have hc0:chkF f m=0:=Classical.byContradiction fun hn=>by rw [flwF_1 hn] at h0; exact hn h0
 have hA:AllTo f:=Classical.byContradiction fun hn=>by rw [flwF_2 hc0 hn] at h0; cases h0
 have hC:=chkd_of hc0
 have hO:=hC.ord hA
 obtain ⟨d,hd⟩:=idoms_ord hO
 exact ⟨d,hC.e,hO,hd⟩
end Go.Proofs.YtbmccmbgnkbmiaaGreat

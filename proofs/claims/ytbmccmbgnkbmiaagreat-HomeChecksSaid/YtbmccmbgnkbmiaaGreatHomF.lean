/- Contracts of the document's seamAt and coverFault. Condition: a checked function. -/
import Derived.Test.YtbmccmbgnkbmiaaGreatHomE
set_option linter.unusedVariables false
set_option linter.unusedSimpArgs false
namespace Go.Proofs.YtbmccmbgnkbmiaaGreat
open Go Go.Abs Go.RowKit
theorem smK_is {p s n:Int} (h : -1000000≤p - s∧p - s≤1000000) (hn:0≤n∧n≤1000):(bif (IntKind.i64.wrap (p - s)==0) then true else (bif inB (IntKind.i64.wrap (p - s)) 1 (IntKind.i64.wrap (2 * n)) then ((IntKind.i64.wrap (p - s)).tmod 2==1) else false))=(decide (p=s)||(inB (p - s) 1 (2 * n)&&decide ((p - s) % 2=1))):=by
 rw [wrap_in (n:=p - s) (by omega) (by omega),wrap_in (n:=2 * n) (by omega) (by omega),bif_or3,bif_and3]
 have e1:(p - s==0)=decide (p=s):=by
  rw [Bool.eq_iff_iff,beq_iff_eq,decide_eq_true_iff]; omega
 rw [e1]
 by_cases h1:1≤p - s
 ·rw [Int.tmod_eq_emod_of_nonneg (by omega)]; rfl
 ·have e2:inB (p - s) 1 (2 * n)=false:=by unfold inB; rw [decide_eq_false h1]; rfl
  rw [e2,Bool.false_and,Bool.false_and]
set_option maxHeartbeats 2000000 in
theorem c_seamAt (f:Fun) (hC:Chkd f) (p:Int) (hp:0≤p∧p≤startF f.Blocks f.Blocks.length):ACallIs B.P 51 [f.av,.i64 p] (.bool (smB f p)):=by
 have hbl:=hC.e.siz.blocks
 have hbm:f.Blocks.length≤maxLen:=by unfold maxLen; omega
 have hbd:=startF_bd hC f.Blocks.length (Nat.le_refl _)
 refine ACallIs.enter B _ _ Tryz.func51 rfl rfl Tryz.ntmps51 Tryz.results51 rfl fun _=>?_
 repeat (first|apply zq|apply zb|apply zk)
 apply zr;intro _
 refine AWp.freezeObj 2 rfl rfl ?_
 repeat (first|apply zq|apply zb|apply zk)
 apply zr;intro _
 repeat (first|apply zq|apply zb|apply zk)
 refine AWp.loop (fun b:Nat=>⟨[(1,.i64 p),(2,.ptr f.cells),(5,.i64 b)],[]⟩) (fun b=>b≤f.Blocks.length∧∀ j,j<b→smK f p j=false) (fun b=>f.Blocks.length - b) 0 ⟨Nat.zero_le _,fun j hj=>absurd hj (Nat.not_lt_zero _)⟩ ?_ ?_
 ·repeat' (first|exact rfl|exact zt|apply zi)
 rintro b ⟨hb0,hg⟩
 repeat (first|apply zq|apply zb|apply zk)
 apply zr;intro _
 repeat (first|apply zq|apply zb|apply zk)
 apply AWp.cond;apply zi<;>intro h1
 ·have hb:b<f.Blocks.length:=zd h1
  have hil:=hC.e.siz.instrs b hb
  have hs0:=startF_bd hC b hb0
  repeat (first|apply zq|apply zb|apply zk)
  apply zr
  repeat' (first|exact zt|apply zi|refine CallX.pure (c_startOf f b hb0 hbm) rfl rfl rfl ?_|fail)
  intro _
  repeat (first|apply zq|apply zb|apply zk)
  apply zr
  repeat' (first|exact zt|apply zi|fail)
  all_goals first|exact fun _=>nn hb|exact fun hh=>hh|exact gT|exact gF|exact gN|exact gA|(intro hh; simpa using hh)|skip
  intro _
  repeat (first|apply zq|apply zb|apply zk)
  apply zr
  repeat' (first|exact zt|apply zi|refine CallK.intro (fun _=>c_In _ 1 _) ?_|fail)
  all_goals first|exact fun hh=>hh|exact gT|exact gF|exact gN|exact gA|decide|exact fun _=>by decide|(intro hh; simpa using hh)|skip
  intro _
  have he:(bif (IntKind.i64.wrap (p - startF f.Blocks b)==0) then true else (bif inB (IntKind.i64.wrap (p - startF f.Blocks b)) 1 (IntKind.i64.wrap (2 * ((blkA f b).Instrs.length:Int))) then ((IntKind.i64.wrap (p - startF f.Blocks b)).tmod 2==1) else false))=smK f p b:=smK_is (by omega) (by have:(blkA f b).Instrs.length≤40:=hil; omega)
  repeat (first|apply zq|apply zb|apply zk)
  apply AWp.cond;apply zi<;>intro h2
  ·have h2:smK f p b=true:=he.symm.trans h2
   repeat (first|apply zq|apply zb|apply zk)
   apply zr;intro _
   refine AWp.ret ⟨Or.inl rfl,rfl,?_⟩
   intro _
   exact tupB (anyB_hit (p:=smK f p) hb h2).symm
  have h2:smK f p b=false:=he.symm.trans h2
  refine AWp.skip ?_
  repeat (first|apply zq|apply zb|apply zk)
  apply zr;intro _
  refine round_end (b+1) ⟨hb,upto_succ hg h2⟩ ?_ (by omega)
  repeat' (first|exact rfl|exact zt|exact zw hb hbm|apply zi)
 have hb3:¬ (b:Int)<f.Blocks.length:=of_decide_eq_false h1
 obtain rfl:b=f.Blocks.length:=by omega
 apply ze
 repeat (first|apply zq|apply zb|apply zk)
 apply zr;intro _
 refine AWp.ret ⟨Or.inl rfl,rfl,?_⟩
 intro _
 exact tupB (anyB_none (p:=smK f p) hg).symm
theorem sumH_nx {H:List Hom} {i:Nat} (h:i<H.length):sumH (H.take (i+1))=sumH (H.take i)+((H.getD i default).To - (H.getD i default).From):=by
 rw [List.take_add_one,List.getElem?_eq_getElem h,sumH_app,List.getD_eq_getElem?_getD,List.getElem?_eq_getElem h]
 show _+(H[i].To - H[i].From+0)=_+(H[i].To - H[i].From)
 omega
theorem sumS_app:∀ {A B:List (Int×Int)},sumS (A++B)=sumS A+sumS B
 | [],B=>by show sumS B=0+sumS B; omega
 | h::r,B=>by
  show h.2 - h.1+sumS (r++B)=h.2 - h.1+sumS r+sumS B
  rw [sumS_app]; omega
theorem sumS_nx {S:List (Int×Int)} {i:Nat} (h:i<S.length):sumS (S.take (i+1))=sumS (S.take i)+((S.getD i default).2 - (S.getD i default).1):=by
 rw [List.take_add_one,List.getElem?_eq_getElem h,sumS_app,List.getD_eq_getElem?_getD,List.getElem?_eq_getElem h]
 show _+(S[i].2 - S[i].1+0)=_+(S[i].2 - S[i].1)
 omega
theorem srtS_take:∀ {S:List (Int×Int)} {a:Int} (i:Nat),srtS a S→srtS a (S.take i)
 | [],_,i,_=>by rw [List.take_nil]; trivial
 | s::r,a,0,_=>trivial
 | s::r,a,i+1,h=>⟨h.1,h.2.1,srtS_take i h.2.2⟩
theorem srtH_take:∀ {S:List Hom} {a:Int} (i:Nat),srtH a S→srtH a (S.take i)
 | [],_,i,_=>by rw [List.take_nil]; trivial
 | s::r,a,0,_=>trivial
 | s::r,a,i+1,h=>⟨h.1,h.2.1,srtH_take i h.2.2⟩
theorem sumS_le:∀ {S:List (Int×Int)} {a M:Int},srtS a S→(∀ s,s∈S→s.2≤M)→a≤M→sumS S≤M - a
 | [],a,M,_,_,h=>by show (0:Int)≤_; omega
 | s::r,a,M,h,hm,_=>by
  have h1:=sumS_le h.2.2 (fun t ht=>hm t (List.mem_cons_of_mem _ ht)) (hm s (List.mem_cons_self ..))
  have h2:=h.1
  show s.2 - s.1+sumS r≤_
  omega
theorem sumH_pos:∀ {H:List Hom} {a:Int},srtH a H→0≤sumH H
 | [],_,_=>Int.le_refl _
 | x::r,a,h=>by
  have:=sumH_pos h.2.2
  have:=h.2.1
  show 0≤x.To - x.From+sumH r
  omega
theorem cov_bad {seam:Int→Bool} {S:List (Int×Int)} {H:List Hom} {a:Int} (hS:srtS a S) {i:Nat} (hi:i<H.length) (h:¬ homK seam S H i):(!cov seam S H)=true:=by
 cases e:cov seam S H with
 | false=>rfl
 | true=>exact absurd ((cov_iff hS).1 e |>.1 i hi) h
theorem sums_in {seam:Int→Bool} {S:List (Int×Int)} {H:List Hom} {M:Int} (hS:srtS 0 S) (hM:∀ s,s∈S→s.2≤M) (h0:0≤M) (hk:∀ i,i<H.length→homK seam S H i):(∀ i,0≤sumH (H.take i)∧sumH (H.take i)≤M)∧(∀ i,0≤sumS (S.take i)∧sumS (S.take i)≤M)∧∀ x,x∈H→0≤x.From∧x.From≤M∧0≤x.To∧x.To≤M:=by
 have hin:∀ x,x∈H→InS S x∧x.From<x.To:=fun x hx=>by
  obtain ⟨i,hi,rfl⟩:=mem_getD hx
  exact ⟨(hk i hi).2.1,(hk i hi).1.1⟩
 have hx:∀ x,x∈H→0≤x.From∧x.From≤M∧0≤x.To∧x.To≤M:=fun x hx=>by
  obtain ⟨⟨s,h1,h2,h3⟩,h4⟩:=hin x hx
  have h5:=(srtS_ge hS s h1).1
  have h6:=hM s h1
  omega
 have hs:srtH 0 H:=srtH_of fun i hl=>by
  refine ⟨(hk i hl).1.1,?_⟩
  by_cases e:i=0
  ·rw [if_pos e]; exact (hx _ (getD_mem hl)).1
  ·rw [if_neg e]; exact (hk i hl).1.2 (by omega)
 refine ⟨fun i=>⟨sumH_pos (srtH_take i hs),?_⟩,fun i=>⟨sumS_pos (srtS_take i hS),?_⟩,hx⟩
 ·have h1:=sum_le (srtH_take i hs) hS fun x hx=>(hin x (List.mem_of_mem_take hx)).1
  have h2:=sumS_le hS hM h0
  omega
 ·have h2:=sumS_le (srtS_take i hS) (fun s hs=>hM s (List.mem_of_mem_take hs)) h0
  omega
def insB (S:List (Int×Int)) (h:Hom) (k:Nat):Bool:=decide ((S.getD k default).1≤h.From)&&decide (h.To≤(S.getD k default).2)
def begB (S:List (Int×Int)) (h:Hom) (k:Nat):Bool:=(S.getD k default).1==h.From
theorem insB_ex {S:List (Int×Int)} {h:Hom}:anyB (insB S h) S.length=true↔∃ s,s∈S∧s.1≤h.From∧h.To≤s.2:=by
 constructor
 ·intro e
  obtain ⟨i,hi,e⟩:=anyB_ex e
  unfold insB at e
  rw [Bool.and_eq_true,decide_eq_true_eq,decide_eq_true_eq] at e
  exact ⟨_,getD_mem hi,e⟩
 ·rintro ⟨s,hs,e⟩
  obtain ⟨i,hi,rfl⟩:=mem_getD hs
  exact anyB_hit hi (by unfold insB; rw [decide_eq_true e.1,decide_eq_true e.2]; rfl)
theorem begB_ex {S:List (Int×Int)} {h:Hom}:anyB (begB S h) S.length=true↔∃ s,s∈S∧s.1=h.From:=by
 constructor
 ·intro e
  obtain ⟨i,hi,e⟩:=anyB_ex e
  exact ⟨_,getD_mem hi,beq_iff_eq.1 e⟩
 ·rintro ⟨s,hs,e⟩
  obtain ⟨i,hi,rfl⟩:=mem_getD hs
  exact anyB_hit hi (beq_iff_eq.2 e)
set_option maxRecDepth 8000 in
set_option maxHeartbeats 8000000 in
theorem c_coverFault (f:Fun) (hC:Chkd f) (S:List (Int×Int)) (L:List Hom) (hS:S.length≤maxLen) (hL:L.length≤maxLen) (hs:∀ s,s∈S→0≤s.1∧s.2≤startF f.Blocks f.Blocks.length) (ho:srtS 0 S):ACallIs B.P 24 [f.av,spV S,homV L] (.bool (!cov (smN f) S L)):=by
 have hbd:=startF_bd hC f.Blocks.length (Nat.le_refl _)
 have hbl:=hC.e.siz.blocks
 refine ACallIs.enter B _ _ Tryz.func24 rfl rfl Tryz.ntmps24 Tryz.results24 rfl fun _=>?_
 repeat (first|apply zq|apply zb|apply zk)
 apply zr;intro _
 refine AWp.freezeObj 3 rfl rfl ?_
 repeat (first|apply zq|apply zb|apply zk)
 apply zr;intro _
 repeat (first|apply zq|apply zb|apply zk)
 refine AWp.loop (fun i:Nat=>⟨[(1,spV S),(2,homV L),(3,.ptr f.cells),(7,.i64 i)],[]⟩) (fun i=>i≤L.length∧∀ j,j<i→homK (smN f) S L j) (fun i=>L.length - i) 0 ⟨Nat.zero_le _,fun j hj=>absurd hj (Nat.not_lt_zero _)⟩ ?_ ?_
 ·repeat' (first|exact rfl|exact zt|apply zi)
 rintro i ⟨hi0,hg⟩
 repeat (first|apply zq|apply zb|apply zk)
 apply zr;intro _
 repeat (first|apply zq|apply zb|apply zk)
 apply AWp.cond;apply zi<;>intro h1
 ·have hi:i<L.length:=zd h1
  repeat (first|apply zq|apply zb|apply zk)
  apply zr
  repeat' (first|exact zt|apply zi|fail)
  all_goals first|exact fun _=>nn hi|exact fun hh=>hh|exact gT|exact gF|exact gN|exact gA|(intro hh; simpa using hh)|skip
  intro _
  refine AWp.freezeObj 8 rfl rfl ?_
  have hLm:=hL
  unfold maxLen at hLm
  have hw:0<i→IntKind.i64.wrap ((i:Int) - 1)=((i - 1:Nat):Int):=fun h=>by rw [wrap_in (by omega) (by omega)]; omega
  have hix:0<i→0≤IntKind.i64.wrap ((i:Int) - 1)∧IntKind.i64.wrap ((i:Int) - 1)<(L.length:Int):=fun h=>by rw [hw h]; omega
  have hx:(bif decide ((L.getD i default).From≥(L.getD i default).To) then true else (bif decide ((i:Int)>0) then decide ((L.getD i default).From<(L.getD (IntKind.i64.wrap ((i:Int) - 1)).toNat default).To) else false))=!decide ((L.getD i default).From<(L.getD i default).To∧(0<i→(L.getD (i - 1) default).To≤(L.getD i default).From)):=by
   rw [bif_or3,bif_and3,Bool.eq_iff_iff]
   by_cases hp:0<i
   ·rw [show (IntKind.i64.wrap ((i:Int) - 1)).toNat=i - 1 by rw [hw hp]; rfl]
    simp only [Bool.or_eq_true,Bool.and_eq_true,decide_eq_true_eq,Bool.not_eq_true',decide_eq_false_iff_not]
    omega
   ·rw [decide_eq_false (show ¬ (i:Int)>0 by omega),Bool.false_and,Bool.or_false]
    simp only [decide_eq_true_eq,Bool.not_eq_true',decide_eq_false_iff_not]
    omega
  repeat (first|apply zq|apply zb|apply zk)
  refine AWp.draw mixed (by kernel_rfl) ?_
  repeat' (first|exact zt|apply zi|fail)
  all_goals first|exact fun hh=>hix (by simp at hh; omega)|exact fun hh=>hh|exact gT|exact gF|exact gN|exact gA|(intro hh; simpa using hh)|skip
  intro _
  repeat (first|apply zq|apply zb|apply zk)
  apply AWp.cond;apply zi<;>intro h2
  ·have h2:=hx.symm.trans h2
   rw [Bool.not_eq_true',decide_eq_false_iff_not] at h2
   repeat (first|apply zq|apply zb|apply zk)
   apply zr;intro _
   refine AWp.ret ⟨Or.inl rfl,rfl,?_⟩
   intro _
   exact tupB (cov_bad ho hi fun hk=>h2 hk.1).symm
  have h2:=hx.symm.trans h2
  rw [Bool.not_eq_false',decide_eq_true_eq] at h2
  refine AWp.skip ?_
  repeat (first|apply zq|apply zb|apply zk)
  apply zr;intro _
  repeat (first|apply zq|apply zb|apply zk)
  apply zr;intro _
  repeat (first|apply zq|apply zb|apply zk)
  refine AWp.loop (fun k:Nat=>⟨[(1,spV S),(2,homV L),(3,.ptr f.cells),(7,.i64 i),(8,.ptr [.i64 (L.getD i default).From,.i64 (L.getD i default).To]),(9,.bool (anyB (insB S (L.getD i default)) k)),(10,.i64 k)],[]⟩) (fun k=>k≤S.length) (fun k=>S.length - k) 0 (Nat.zero_le _) ?_ ?_
  ·repeat' (first|exact rfl|exact zt|apply zi)
  intro k hk0
  repeat (first|apply zq|apply zb|apply zk)
  apply zr;intro _
  repeat (first|apply zq|apply zb|apply zk)
  apply AWp.cond;apply zi<;>intro h3
  ·have hk:k<S.length:=zd h3
   have hu:(bif anyB (insB S (L.getD i default)) k then true else (bif decide ((S.getD k default).1≤(L.getD i default).From) then decide ((L.getD i default).To≤(S.getD k default).2) else false))=anyB (insB S (L.getD i default)) (k+1):=by rw [anyB_succ,bif_or3,bif_and3]; rfl
   repeat (first|apply zq|apply zb|apply zk)
   refine AWp.draw mixed (by kernel_rfl) ?_
   repeat' (first|exact zt|apply zi|fail)
   all_goals first|exact fun _=>nn hk|exact fun hh=>hh|exact gT|exact gF|exact gN|exact gA|(intro hh; simpa using hh)|skip
   intro _
   repeat (first|apply zq|apply zb|apply zk)
   apply zr;intro _
   refine round_end (k+1) hk ?_ (by omega)
   repeat' (first|exact rfl|exact congrArg (fun b=>some (AV.bool b)) hu|exact zt|exact zw hk hS|apply zi)
  have hk3:¬ (k:Int)<S.length:=of_decide_eq_false h3
  obtain rfl:k=S.length:=by omega
  apply ze
  repeat (first|apply zq|apply zb|apply zk)
  apply zr;intro _
  repeat (first|apply zq|apply zb|apply zk)
  apply zr;intro _
  repeat (first|apply zq|apply zb|apply zk)
  refine AWp.loop (fun k:Nat=>⟨[(1,spV S),(2,homV L),(3,.ptr f.cells),(7,.i64 i),(8,.ptr [.i64 (L.getD i default).From,.i64 (L.getD i default).To]),(9,.bool (anyB (insB S (L.getD i default)) S.length)),(11,.bool (anyB (begB S (L.getD i default)) k)),(12,.i64 k)],[]⟩) (fun k=>k≤S.length) (fun k=>S.length - k) 0 (Nat.zero_le _) ?_ ?_
  ·repeat' (first|exact rfl|exact zt|apply zi)
  intro k hk0
  repeat (first|apply zq|apply zb|apply zk)
  apply zr;intro _
  repeat (first|apply zq|apply zb|apply zk)
  apply AWp.cond;apply zi<;>intro h3
  ·have hk:k<S.length:=zd h3
   have hu:(bif anyB (begB S (L.getD i default)) k then true else ((S.getD k default).1==(L.getD i default).From))=anyB (begB S (L.getD i default)) (k+1):=by rw [anyB_succ,bif_or3]; rfl
   repeat (first|apply zq|apply zb|apply zk)
   refine AWp.draw mixed (by kernel_rfl) ?_
   repeat' (first|exact zt|apply zi|fail)
   all_goals first|exact fun _=>nn hk|exact fun hh=>hh|exact gT|exact gF|exact gN|exact gA|(intro hh; simpa using hh)|skip
   intro _
   repeat (first|apply zq|apply zb|apply zk)
   apply zr;intro _
   refine round_end (k+1) hk ?_ (by omega)
   repeat' (first|exact rfl|exact congrArg (fun b=>some (AV.bool b)) hu|exact zt|exact zw hk hS|apply zi)
  have hk3:¬ (k:Int)<S.length:=of_decide_eq_false h3
  obtain rfl:k=S.length:=by omega
  apply ze
  have hsp:anyB (insB S (L.getD i default)) S.length=true→0≤(L.getD i default).From∧(L.getD i default).From≤startF f.Blocks f.Blocks.length:=fun e=>by
   obtain ⟨s,h4,h5,h6⟩:=insB_ex.1 e
   have:=hs s h4
   omega
  repeat (first|apply zq|apply zb|apply zk)
  apply zr
  repeat' (first|exact zt|apply zi|refine CallK.intro (fun hgd=>c_seamAt f hC (L.getD i default).From (hsp (by simp at hgd; exact hgd.1))) ?_|fail)
  all_goals first|exact fun hh=>hh|exact gT|exact gF|exact gN|exact gA|(intro hh; simpa using hh)|skip
  intro _
  have hsn:anyB (insB S (L.getD i default)) S.length=true→smN f (L.getD i default).From=smB f (L.getD i default).From:=fun e=>by
   show smB f (((L.getD i default).From.toNat:Nat):Int)=_
   rw [Int.toNat_of_nonneg (hsp e).1]
  repeat (first|apply zq|apply zb|apply zk)
  apply AWp.cond;apply zi<;>intro h4
  ·have h4:(bif (!anyB (insB S (L.getD i default)) S.length) then true else (bif (!anyB (begB S (L.getD i default)) S.length) then (!smB f (L.getD i default).From) else false))=true:=h4
   have hno:¬ homK (smN f) S L i:=fun hk=>by
    have e1:=insB_ex.2 hk.2.1
    rw [e1] at h4
    rcases hk.2.2 with e|e
    ·rw [begB_ex.2 e] at h4; cases h4
    ·rw [hsn e1] at e
     rw [e] at h4
     cases hB:anyB (begB S (L.getD i default)) S.length<;>rw [hB] at h4<;>cases h4
   repeat (first|apply zq|apply zb|apply zk)
   apply zr;intro _
   refine AWp.ret ⟨Or.inl rfl,rfl,?_⟩
   intro _
   exact tupB (cov_bad ho hi hno).symm
  have h4:(bif (!anyB (insB S (L.getD i default)) S.length) then true else (bif (!anyB (begB S (L.getD i default)) S.length) then (!smB f (L.getD i default).From) else false))=false:=h4
  have hk:homK (smN f) S L i:=by
   cases hI:anyB (insB S (L.getD i default)) S.length with
   | false=>rw [hI] at h4; cases h4
   | true =>
    refine ⟨h2,insB_ex.1 hI,?_⟩
    cases hB:anyB (begB S (L.getD i default)) S.length with
    | true=>exact .inl (begB_ex.1 hB)
    | false =>
     rw [hI,hB] at h4
     refine .inr ?_
     rw [hsn hI]
     cases hm:smB f (L.getD i default).From with
     | true=>rfl
     | false=>rw [hm] at h4; cases h4
  refine AWp.skip ?_
  repeat (first|apply zq|apply zb|apply zk)
  apply zr;intro _
  refine round_end (i+1) ⟨hi,upto_succ hg hk⟩ ?_ (by omega)
  repeat' (first|exact rfl|exact zt|exact zw hi hL|apply zi)
 have hi3:¬ (i:Int)<L.length:=of_decide_eq_false h1
 obtain rfl:i=L.length:=by omega
 apply ze
 have hq:=sums_in ho (fun s h=>(hs s h).2) hbd.1 hg
 repeat (first|apply zq|apply zb|apply zk)
 apply zr;intro _
 repeat (first|apply zq|apply zb|apply zk)
 apply zr;intro _
 repeat (first|apply zq|apply zb|apply zk)
 refine AWp.loop (fun i:Nat=>⟨[(1,spV S),(2,homV L),(13,.i64 (sumH (L.take i))),(14,.i64 i)],[]⟩) (fun i=>i≤L.length) (fun i=>L.length - i) 0 (Nat.zero_le _) ?_ ?_
 ·repeat' (first|exact rfl|exact zt|apply zi)
 intro i hi0
 repeat (first|apply zq|apply zb|apply zk)
 apply zr;intro _
 repeat (first|apply zq|apply zb|apply zk)
 apply AWp.cond;apply zi<;>intro h1
 ·have hi:i<L.length:=zd h1
  have q1:=hq.1 i
  have q2:=hq.2.2 _ (getD_mem (d:=default) hi)
  have hu:IntKind.i64.wrap (IntKind.i64.wrap (sumH (L.take i)+(L.getD i default).To) - (L.getD i default).From)=sumH (L.take (i+1)):=by
   rw [sumH_nx hi,wrap_in (n:=sumH (L.take i)+(L.getD i default).To) (by omega) (by omega),wrap_in (by omega) (by omega)]; omega
  repeat (first|apply zq|apply zb|apply zk)
  refine AWp.draw mixed (by kernel_rfl) ?_
  repeat' (first|exact zt|apply zi|fail)
  all_goals first|exact fun _=>nn hi|exact fun hh=>hh|exact gT|exact gF|exact gN|exact gA|(intro hh; simpa using hh)|skip
  intro _
  repeat (first|apply zq|apply zb|apply zk)
  apply zr;intro _
  refine round_end (i+1) hi ?_ (by omega)
  repeat' (first|exact rfl|exact congrArg (fun z=>some (AV.i64 z)) hu|exact zt|exact zw hi hL|apply zi)
 have hi3:¬ (i:Int)<L.length:=of_decide_eq_false h1
 obtain rfl:i=L.length:=by omega
 apply ze
 repeat (first|apply zq|apply zb|apply zk)
 apply zr;intro _
 repeat (first|apply zq|apply zb|apply zk)
 refine AWp.loop (fun k:Nat=>⟨[(1,spV S),(13,.i64 (sumH L - sumS (S.take k))),(15,.i64 k)],[]⟩) (fun k=>k≤S.length) (fun k=>S.length - k) 0 (Nat.zero_le _) ?_ ?_
 ·repeat' (first|exact rfl|exact zt|exact congrArg (fun z=>some (AV.i64 z)) (show sumH (L.take L.length)=sumH L - sumS (S.take 0) by rw [List.take_length]; show sumH L=sumH L - 0; omega)|apply zi)
 intro k hk0
 repeat (first|apply zq|apply zb|apply zk)
 apply zr;intro _
 repeat (first|apply zq|apply zb|apply zk)
 apply AWp.cond;apply zi<;>intro h1
 ·have hk:k<S.length:=zd h1
  have q1:=hq.1 L.length
  rw [List.take_length] at q1
  have q2:=hq.2.1 k
  have q3:=hq.2.1 (k+1)
  have q4:=sumS_nx hk
  have hu:IntKind.i64.wrap (sumH L - sumS (S.take k) - IntKind.i64.wrap ((S.getD k default).2 - (S.getD k default).1))=sumH L - sumS (S.take (k+1)):=by
   rw [wrap_in (n:=(S.getD k default).2 - (S.getD k default).1) (by omega) (by omega),wrap_in (by omega) (by omega)]; omega
  repeat (first|apply zq|apply zb|apply zk)
  refine AWp.draw mixed (by kernel_rfl) ?_
  repeat' (first|exact zt|apply zi|fail)
  all_goals first|exact fun _=>nn hk|exact fun hh=>hh|exact gT|exact gF|exact gN|exact gA|(intro hh; simpa using hh)|skip
  intro _
  repeat (first|apply zq|apply zb|apply zk)
  apply zr;intro _
  refine round_end (k+1) hk ?_ (by omega)
  repeat' (first|exact rfl|exact congrArg (fun z=>some (AV.i64 z)) hu|exact zt|exact zw hk hS|apply zi)
 have hk3:¬ (k:Int)<S.length:=of_decide_eq_false h1
 obtain rfl:k=S.length:=by omega
 apply ze
 repeat (first|apply zq|apply zb|apply zk)
 apply zr;intro _
 refine AWp.ret ⟨Or.inl rfl,rfl,?_⟩
 intro _
 refine tupB (show (sumH L - sumS (S.take S.length) != 0)=_ from ?_)
 rw [List.take_length]
 cases e:cov (smN f) S L with
 | true =>
  have h2:=((cov_iff ho).1 e).2
  rw [h2,Int.sub_self]; rfl
 | false =>
  show _=true
  rw [bne_iff_ne]
  intro h2
  rw [(cov_iff ho).2 ⟨hg,by omega⟩] at e
  cases e
end Go.Proofs.YtbmccmbgnkbmiaaGreat

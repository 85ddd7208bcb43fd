/- Contracts of the document's HomesFault, and of both where the function is refused. Condition: a checked function, where said. -/
import Derived.Test.YtbmccmbgnkbmiaaGreatHomF
set_option linter.unusedVariables false
set_option linter.unusedSimpArgs false
namespace Go.Proofs.YtbmccmbgnkbmiaaGreat
open Go Go.Abs Go.RowKit
theorem tw_sym (g h:Hom):(bif (bif ((h.P.Kind==g.P.Kind)&&((h.P.Class==g.P.Class)&&((h.P.N==g.P.N)&&true))) then decide (h.From<g.To) else false) then decide (g.From<h.To) else false)=twH g h:=by
 rw [plc_eq h.P g.P,bif_and3,bif_and3]
 unfold twH meB
 have e:(h.P==g.P)=(g.P==h.P):=by rw [Bool.eq_iff_iff,beq_iff_eq,beq_iff_eq]; exact eq_comm
 rw [e]
 cases (g.P==h.P)<;>cases decide (h.From<g.To)<;>cases decide (g.From<h.To)<;>rfl
theorem cl_eq {C:List C5} {L:List (List Hom)} {c v i:Nat}:(bif (bif (bif (bif (bif ((v:Int) != (C.getD c default).2.2.2.2) then ((hAt L v i).P.Kind==1) else false) then ((hAt L v i).P.Class==(C.getD c default).1) else false) then ((hAt L v i).P.N==(C.getD c default).2.1) else false) then decide ((hAt L v i).From<(C.getD c default).2.2.2.1) else false) then decide ((C.getD c default).2.2.1<(hAt L v i).To) else false)=clB2 C L c v i:=by
 unfold clB2 meB
 rw [← plc_eq]
 simp only [bif_and3,Bool.and_assoc,Bool.and_true,Bool.true_and]
theorem pl_eq {f:Fun} {m:Mch} {fr:Int} {v:Nat} {p:Plc}:(bif (!placeF m fr p) then true else (bif (p.Kind==1) then (p.Class != cls f v) else false))=!plB f m fr v p:=by
 unfold plB
 rw [bif_or3,bif_and3]
 cases placeF m fr p<;>cases (p.Kind==1)<;>cases (p.Class != cls f v)<;>rfl
theorem c_HomeCheckNo (f:Fun) (m:Mch) (L:List (List Hom)) (fr:Int) (hok:Fun.ok f) (h0:flwF f m≠0):ACallIs B.P 6 [f.av,m.av,homsV L,.i64 fr] (.i64 (hmF f m L fr)):=by
 refine ACallIs.enter B _ _ Tryz.func6 rfl rfl Tryz.ntmps6 Tryz.results6 rfl fun _=>?_
 repeat (first|apply zq|apply zb|apply zk)
 apply zr;intro _
 refine AWp.freezeObj 4 rfl rfl ?_
 refine AWp.freezeObj 5 rfl rfl ?_
 repeat (first|apply zq|apply zb|apply zk)
 apply zr
 repeat' (first|exact zt|apply zi|refine CallX.pure (c_SpansNo f m hok h0) rfl rfl rfl ?_|fail)
 intro _
 repeat (first|apply zq|apply zb|apply zk)
 apply zr;intro _
 repeat (first|apply zq|apply zb|apply zk)
 apply AWp.cond;apply zi<;>intro h1
 ·repeat (first|apply zq|apply zb|apply zk)
  apply zr;intro _
  refine AWp.ret ⟨Or.inl rfl,rfl,?_⟩
  intro _
  exact tupI (hmF_1 h0).symm
 exact absurd (show (flwF f m != 0)=false from h1) (by simpa using h0)
theorem c_HomesFaultNo (f:Fun) (m:Mch) (L:List (List Hom)) (fr:Int) (hok:Fun.ok f) (h0:flwF f m≠0):ACallIs B.P 7 [f.av,m.av,homsV L,.i64 fr] (.i64 (hmF f m L fr)):=by
 refine ACallIs.enter B _ _ Tryz.func7 rfl rfl Tryz.ntmps7 Tryz.results7 rfl fun _=>?_
 repeat (first|apply zq|apply zb|apply zk)
 apply zr;intro _
 refine AWp.freezeObj 4 rfl rfl ?_
 refine AWp.freezeObj 5 rfl rfl ?_
 repeat (first|apply zq|apply zb|apply zk)
 apply zr
 repeat' (first|exact zt|apply zi|refine CallX.pure (c_SpansOfNo f m hok h0) rfl rfl rfl ?_|fail)
 intro _
 repeat (first|apply zq|apply zb|apply zk)
 apply zr;intro _
 repeat (first|apply zq|apply zb|apply zk)
 apply AWp.cond;apply zi<;>intro h1
 ·repeat (first|apply zq|apply zb|apply zk)
  apply zr;intro _
  refine AWp.ret ⟨Or.inl rfl,rfl,?_⟩
  intro _
  exact tupI (hmF_1 h0).symm
 exact absurd (show (flwF f m != 0)=false from h1) (by simpa using h0)
set_option maxRecDepth 8000 in
set_option maxHeartbeats 16000000 in
theorem c_HomesFault (f:Fun) (m:Mch) (L:List (List Hom)) (fr:Int) (hok:Fun.ok f) (hC:Chkd f) (hc0:chkF f m=0) (h0:flwF f m=0) (hz:SizOk f) (hV:VOk f) (hcl:∀ b a,b<f.Blocks.length→a<(f.Blocks.getD b default).Instrs.length→ClmOk f (xAt f b a)) (hlen:L.length≤maxLen) (hH:∀ H,H∈L→H.length≤maxLen) (hcm:(insA (clB f f.Blocks.length)).length≤maxLen) :
  ACallIs B.P 7 [f.av,m.av,homsV L,.i64 fr] (.i64 (hmF f m L fr)):=by
 have hm:=flw_mach h0
 refine ACallIs.enter B _ _ Tryz.func7 rfl rfl Tryz.ntmps7 Tryz.results7 rfl fun _=>?_
 repeat (first|apply zq|apply zb|apply zk)
 apply zr;intro _
 refine AWp.freezeObj 4 rfl rfl ?_
 refine AWp.freezeObj 5 rfl rfl ?_
 repeat (first|apply zq|apply zb|apply zk)
 apply zr
 repeat' (first|exact zt|apply zi|refine CallX.pure (c_SpansOf f m hok hC hc0 h0) rfl rfl rfl ?_|fail)
 intro _
 repeat (first|apply zq|apply zb|apply zk)
 apply zr;intro _
 repeat (first|apply zq|apply zb|apply zk)
 apply AWp.cond;apply zi<;>intro h1
 ·exact absurd h1 (by decide)
 refine AWp.skip ?_
 repeat (first|apply zq|apply zb|apply zk)
 apply zr
 repeat' (first|exact zt|apply zi|refine CallX.pure (c_In fr 0 499) rfl rfl rfl ?_|fail)
 intro _
 repeat (first|apply zq|apply zb|apply zk)
 apply AWp.cond;apply zi<;>intro h1
 ·have hb:fr<0∨500≤fr:=by
   have h1:(!inB fr 0 499)=true:=h1
   unfold inB at h1
   simp only [Bool.not_eq_true',Bool.and_eq_false_iff,decide_eq_false_iff_not] at h1
   omega
  repeat (first|apply zq|apply zb|apply zk)
  apply zr;intro _
  refine AWp.ret ⟨Or.inl rfl,rfl,?_⟩
  intro _
  exact tupI (hmF_2 h0 hb).symm
 have hb:¬ (fr<0∨500≤fr):=by
  have h1:(!inB fr 0 499)=false:=h1
  unfold inB at h1
  simp only [Bool.not_eq_false',Bool.and_eq_true,decide_eq_true_eq] at h1
  omega
 have hfr:0≤fr∧fr≤1000:=by omega
 refine AWp.skip ?_
 repeat (first|apply zq|apply zb|apply zk)
 apply zr;intro _
 repeat (first|apply zq|apply zb|apply zk)
 apply AWp.cond;apply zi<;>intro h2
 ·have h2:((L.length:Int) != (f.Values.length:Int))=true:=h2
  have hn:L.length≠f.Values.length:=fun e=>by rw [e] at h2; simp at h2
  repeat (first|apply zq|apply zb|apply zk)
  apply zr;intro _
  refine AWp.ret ⟨Or.inl rfl,rfl,?_⟩
  intro _
  exact tupI (hmF_3 h0 hb hn).symm
 have hn:L.length=f.Values.length:=by
  have h2:((L.length:Int) != (f.Values.length:Int))=false:=h2
  simp only [bne_eq_false_iff_eq] at h2
  omega
 refine AWp.skip ?_
 repeat (first|apply zq|apply zb|apply zk)
 apply zr;intro _
 repeat (first|apply zq|apply zb|apply zk)
 refine AWp.loop (fun v:Nat=>⟨[(2,homsV L),(4,.ptr f.cells),(5,.ptr m.cells),(3,.i64 fr),(9,spsV f),(11,.i64 v)],[]⟩) (fun v=>v≤L.length∧∀ j,j<v→hmV f m L fr j=0) (fun v=>L.length - v) 0 ⟨Nat.zero_le _,fun j hj=>absurd hj (Nat.not_lt_zero _)⟩ ?_ ?_
 ·repeat' (first|exact rfl|exact zt|apply zi)
 rintro v ⟨hv0,hg⟩
 repeat (first|apply zq|apply zb|apply zk)
 apply zr;intro _
 repeat (first|apply zq|apply zb|apply zk)
 apply AWp.cond;apply zi<;>intro h3
 ·have hv:v<L.length:=zd h3
  have hv2:v<f.Values.length:=by omega
  have hHl:=hm_len hH v
  have hvb:valB f (v:Int)=true:=by unfold valB; rw [decide_eq_true (by omega),decide_eq_true (by omega)]; rfl
  repeat (first|apply zq|apply zb|apply zk)
  refine AWp.draw mixed (by kernel_rfl) ?_
  repeat' (first|exact zt|apply zi|refine CallK.intro (fun _=>c_coverFault f hC (spL f (v:Int) f.Blocks.length) (L.getD v default) (spL_len hc0 hC hv2) hHl (spL_in hc0 hC hv2) (spL_srt hc0 hC hv2 f.Blocks.length (Nat.le_refl _)).1) ?_|fail)
  all_goals first|exact fun _=>nn hv|exact fun _=>nn hv2|exact fun hh=>hh|exact gT|exact gF|exact gN|exact gA|(intro hh; simpa using hh)|skip
  intro _
  repeat (first|apply zq|apply zb|apply zk)
  apply AWp.cond;apply zi<;>intro h4
  ·have h4:cov (smN f) (spL f (v:Int) f.Blocks.length) (L.getD v default)=false:=by simpa using h4
   repeat (first|apply zq|apply zb|apply zk)
   apply zr;intro _
   refine AWp.ret ⟨Or.inl rfl,rfl,?_⟩
   intro _
   exact tupI ((hmF_4 h0 hb hn hv hg (by rw [hmV_4 h4]; decide)).trans (hmV_4 h4)).symm
  have h4:cov (smN f) (spL f (v:Int) f.Blocks.length) (L.getD v default)=true:=by simpa using h4
  refine AWp.skip ?_
  repeat (first|apply zq|apply zb|apply zk)
  apply zr;intro _
  repeat (first|apply zq|apply zb|apply zk)
  refine AWp.loop (fun i:Nat=>⟨[(2,homsV L),(4,.ptr f.cells),(5,.ptr m.cells),(3,.i64 fr),(9,spsV f),(11,.i64 v),(12,.i64 i)],[]⟩) (fun i=>i≤(L.getD v default).length∧∀ j,j<i→plB f m fr v (hAt L v j).P=true) (fun i=>(L.getD v default).length - i) 0 ⟨Nat.zero_le _,fun j hj=>absurd hj (Nat.not_lt_zero _)⟩ ?_ ?_
  ·repeat' (first|exact rfl|exact zt|apply zi)
  rintro i ⟨hi0,hp⟩
  repeat (first|apply zq|apply zb|apply zk)
  apply zr
  repeat' (first|exact zt|apply zi|fail)
  all_goals first|exact fun _=>nn hv|exact fun hh=>hh|exact gT|exact gF|exact gN|exact gA|(intro hh; simpa using hh)|skip
  intro _
  repeat (first|apply zq|apply zb|apply zk)
  apply AWp.cond;apply zi<;>intro h5
  ·have hi:i<(L.getD v default).length:=zd h5
   repeat (first|apply zq|apply zb|apply zk)
   apply zr
   repeat' (first|exact zt|apply zi|fail)
   all_goals first|exact fun _=>nn hv|exact fun _=>nn hi|exact fun hh=>hh|exact gT|exact gF|exact gN|exact gA|(intro hh; simpa using hh)|skip
   intro _
   refine AWp.freezeObj 13 rfl rfl ?_
   repeat (first|apply zq|apply zb|apply zk)
   refine AWp.draw mixed (by kernel_rfl) ?_
   repeat' (first|exact zt|apply zi|refine CallK.intro (fun _=>c_placeMay m hm fr hfr (hAt L v i).P false) ?_|refine CallK.intro (fun _=>c_classOf f (v:Int) hvb) ?_|fail)
   all_goals first|exact fun hh=>hh|exact gT|exact gF|exact gN|exact gA|(intro hh; simpa using hh)|skip
   intro _
   repeat (first|apply zq|apply zb|apply zk)
   apply AWp.cond;apply zi<;>intro h6
   ·have h6:plB f m fr v (hAt L v i).P=false:=by
     have h6:=(pl_eq (f:=f) (m:=m) (fr:=fr) (v:=v) (p:=(hAt L v i).P)).symm.trans h6
     simpa using h6
    repeat (first|apply zq|apply zb|apply zk)
    apply zr;intro _
    refine AWp.ret ⟨Or.inl rfl,rfl,?_⟩
    intro _
    exact tupI ((hmF_4 h0 hb hn hv hg (by rw [hmV_2 h4 hi h6]; decide)).trans (hmV_2 h4 hi h6)).symm
   have h6:plB f m fr v (hAt L v i).P=true:=by
    have h6:=(pl_eq (f:=f) (m:=m) (fr:=fr) (v:=v) (p:=(hAt L v i).P)).symm.trans h6
    simpa using h6
   refine AWp.skip ?_
   repeat (first|apply zq|apply zb|apply zk)
   apply zr;intro _
   refine round_end (i+1) ⟨hi,upto_succ hp h6⟩ ?_ (by omega)
   repeat' (first|exact rfl|exact zt|exact zw hi hHl|apply zi)
  have hi3:¬ (i:Int)<(L.getD v default).length:=of_decide_eq_false h5
  obtain rfl:i=(L.getD v default).length:=by omega
  apply ze
  repeat (first|apply zq|apply zb|apply zk)
  apply zr;intro _
  refine round_end (v+1) ⟨hv,upto_succ hg (hmV_0 h4 hp)⟩ ?_ (by omega)
  repeat' (first|exact rfl|exact zt|exact zw hv hlen|apply zi)
 have hv3:¬ (v:Int)<L.length:=of_decide_eq_false h3
 obtain rfl:v=L.length:=by omega
 apply ze
 repeat (first|apply zq|apply zb|apply zk)
 apply zr;intro _
 repeat (first|apply zq|apply zb|apply zk)
 refine AWp.loop (fun v:Nat=>⟨[(2,homsV L),(4,.ptr f.cells),(5,.ptr m.cells),(14,.i64 v)],[]⟩) (fun v=>v≤L.length∧∀ v',v'<v→∀ w,w<v'→∀ i,i<(L.getD v' default).length→∀ k,k<(L.getD w default).length→twB L v' w i k=false) (fun v=>L.length - v) 0 ⟨Nat.zero_le _,fun j hj=>absurd hj (Nat.not_lt_zero _)⟩ ?_ ?_
 ·repeat' (first|exact rfl|exact zt|apply zi)
 rintro v ⟨hv0,ht1⟩
 repeat (first|apply zq|apply zb|apply zk)
 apply zr;intro _
 repeat (first|apply zq|apply zb|apply zk)
 apply AWp.cond;apply zi<;>intro h3
 ·have hv:v<L.length:=zd h3
  have hHl:=hm_len hH v
  repeat (first|apply zq|apply zb|apply zk)
  apply zr;intro _
  repeat (first|apply zq|apply zb|apply zk)
  refine AWp.loop (fun w:Nat=>⟨[(2,homsV L),(4,.ptr f.cells),(5,.ptr m.cells),(14,.i64 v),(15,.i64 w)],[]⟩) (fun w=>w≤v∧∀ w',w'<w→∀ i,i<(L.getD v default).length→∀ k,k<(L.getD w' default).length→twB L v w' i k=false) (fun w=>v - w) 0 ⟨Nat.zero_le _,fun j hj=>absurd hj (Nat.not_lt_zero _)⟩ ?_ ?_
  ·repeat' (first|exact rfl|exact zt|apply zi)
  rintro w ⟨hw0,ht2⟩
  repeat (first|apply zq|apply zb|apply zk)
  apply zr;intro _
  repeat (first|apply zq|apply zb|apply zk)
  apply AWp.cond;apply zi<;>intro h4
  ·have hw:w<v:=zd h4
   have hwl:w<L.length:=by omega
   have hWl:=hm_len hH w
   repeat (first|apply zq|apply zb|apply zk)
   apply zr;intro _
   repeat (first|apply zq|apply zb|apply zk)
   refine AWp.loop (fun i:Nat=>⟨[(2,homsV L),(4,.ptr f.cells),(5,.ptr m.cells),(14,.i64 v),(15,.i64 w),(16,.i64 i)],[]⟩) (fun i=>i≤(L.getD v default).length∧∀ i',i'<i→∀ k,k<(L.getD w default).length→twB L v w i' k=false) (fun i=>(L.getD v default).length - i) 0 ⟨Nat.zero_le _,fun j hj=>absurd hj (Nat.not_lt_zero _)⟩ ?_ ?_
   ·repeat' (first|exact rfl|exact zt|apply zi)
   rintro i ⟨hi0,ht3⟩
   repeat (first|apply zq|apply zb|apply zk)
   apply zr
   repeat' (first|exact zt|apply zi|fail)
   all_goals first|exact fun _=>nn hv|exact fun hh=>hh|exact gT|exact gF|exact gN|exact gA|(intro hh; simpa using hh)|skip
   intro _
   repeat (first|apply zq|apply zb|apply zk)
   apply AWp.cond;apply zi<;>intro h5
   ·have hi:i<(L.getD v default).length:=zd h5
    repeat (first|apply zq|apply zb|apply zk)
    apply zr;intro _
    repeat (first|apply zq|apply zb|apply zk)
    refine AWp.loop (fun k:Nat=>⟨[(2,homsV L),(4,.ptr f.cells),(5,.ptr m.cells),(14,.i64 v),(15,.i64 w),(16,.i64 i),(17,.i64 k)],[]⟩) (fun k=>k≤(L.getD w default).length∧∀ k',k'<k→twB L v w i k'=false) (fun k=>(L.getD w default).length - k) 0 ⟨Nat.zero_le _,fun j hj=>absurd hj (Nat.not_lt_zero _)⟩ ?_ ?_
    ·repeat' (first|exact rfl|exact zt|apply zi)
    rintro k ⟨hk0,ht4⟩
    repeat (first|apply zq|apply zb|apply zk)
    apply zr
    repeat' (first|exact zt|apply zi|fail)
    all_goals first|exact fun _=>nn hwl|exact fun hh=>hh|exact gT|exact gF|exact gN|exact gA|(intro hh; simpa using hh)|skip
    intro _
    repeat (first|apply zq|apply zb|apply zk)
    apply AWp.cond;apply zi<;>intro h6
    ·have hk:k<(L.getD w default).length:=zd h6
     repeat (first|apply zq|apply zb|apply zk)
     apply zr
     repeat' (first|exact zt|apply zi|fail)
     all_goals first|exact fun _=>nn hv|exact fun _=>nn hi|exact fun hh=>hh|exact gT|exact gF|exact gN|exact gA|(intro hh; simpa using hh)|skip
     intro _
     refine AWp.freezeObj 18 rfl rfl ?_
     repeat (first|apply zq|apply zb|apply zk)
     apply zr
     repeat' (first|exact zt|apply zi|fail)
     all_goals first|exact fun _=>nn hwl|exact fun _=>nn hk|exact fun hh=>hh|exact gT|exact gF|exact gN|exact gA|(intro hh; simpa using hh)|skip
     intro _
     refine AWp.freezeObj 19 rfl rfl ?_
     repeat (first|apply zq|apply zb|apply zk)
     apply zr
     repeat' (first|exact zt|apply zi|fail)
     all_goals first|exact fun hh=>hh|exact gT|exact gF|exact gN|exact gA|(intro hh; simpa using hh)|skip
     intro _
     repeat (first|apply zq|apply zb|apply zk)
     apply AWp.cond;apply zi<;>intro h7
     ·have h7:twB L v w i k=true:=(tw_sym (hAt L w k) (hAt L v i)).symm.trans h7
      repeat (first|apply zq|apply zb|apply zk)
      apply zr;intro _
      refine AWp.ret ⟨Or.inl rfl,rfl,?_⟩
      intro _
      exact tupI (hmF_5 h0 hb hn hg ⟨v,w,i,k,hv,hw,hi,hk,h7⟩).symm
     have h7:twB L v w i k=false:=(tw_sym (hAt L w k) (hAt L v i)).symm.trans h7
     refine AWp.skip ?_
     repeat (first|apply zq|apply zb|apply zk)
     apply zr;intro _
     refine round_end (k+1) ⟨hk,upto_succ (p:=fun k=>twB L v w i k=false) ht4 h7⟩ ?_ (by omega)
     repeat' (first|exact rfl|exact zt|exact zw hk hWl|apply zi)
    have hk3:¬ (k:Int)<(L.getD w default).length:=of_decide_eq_false h6
    obtain rfl:k=(L.getD w default).length:=by omega
    apply ze
    repeat (first|apply zq|apply zb|apply zk)
    apply zr;intro _
    refine round_end (i+1) ⟨hi,upto_succ (p:=fun i=>∀ k,k<(L.getD w default).length→twB L v w i k=false) ht3 ht4⟩ ?_ (by omega)
    repeat' (first|exact rfl|exact zt|exact zw hi hHl|apply zi)
   have hi3:¬ (i:Int)<(L.getD v default).length:=of_decide_eq_false h5
   obtain rfl:i=(L.getD v default).length:=by omega
   apply ze
   repeat (first|apply zq|apply zb|apply zk)
   apply zr;intro _
   refine round_end (w+1) ⟨hw,upto_succ (p:=fun w=>∀ i,i<(L.getD v default).length→∀ k,k<(L.getD w default).length→twB L v w i k=false) ht2 ht3⟩ ?_ (by omega)
   repeat' (first|exact rfl|exact zt|exact zw hw (show v≤maxLen by omega)|apply zi)
  have hw3:¬ (w:Int)<v:=of_decide_eq_false h4
  obtain rfl:w=v:=by omega
  apply ze
  repeat (first|apply zq|apply zb|apply zk)
  apply zr;intro _
  refine round_end (w+1) ⟨hv,upto_succ (p:=fun v=>∀ w,w<v→∀ i,i<(L.getD v default).length→∀ k,k<(L.getD w default).length→twB L v w i k=false) ht1 ht2⟩ ?_ (by omega)
  repeat' (first|exact rfl|exact zt|exact zw hv hlen|apply zi)
 have hv3:¬ (v:Int)<L.length:=of_decide_eq_false h3
 obtain rfl:v=L.length:=by omega
 apply ze
 have hnt:=no_tw ht1
 repeat (first|apply zq|apply zb|apply zk)
 apply zr
 repeat' (first|exact zt|apply zi|refine CallX.pure (c_ClaimsOf f m hok hz h0 hcl) rfl rfl rfl ?_|fail)
 intro _
 repeat (first|apply zq|apply zb|apply zk)
 apply zr;intro _
 repeat (first|apply zq|apply zb|apply zk)
 refine AWp.loop (fun c:Nat=>⟨[(2,homsV L),(20,claims (insA (clB f f.Blocks.length))),(22,.i64 c)],[]⟩) (fun c=>c≤(insA (clB f f.Blocks.length)).length∧∀ c',c'<c→∀ v,v<L.length→∀ i,i<(L.getD v default).length→clB2 (insA (clB f f.Blocks.length)) L c' v i=false) (fun c=>(insA (clB f f.Blocks.length)).length - c) 0 ⟨Nat.zero_le _,fun j hj=>absurd hj (Nat.not_lt_zero _)⟩ ?_ ?_
 ·repeat' (first|exact rfl|exact zt|apply zi)
 rintro c ⟨hc1,hk1⟩
 repeat (first|apply zq|apply zb|apply zk)
 apply zr;intro _
 repeat (first|apply zq|apply zb|apply zk)
 apply AWp.cond;apply zi<;>intro h3
 ·have hc:c<(insA (clB f f.Blocks.length)).length:=zd h3
  repeat (first|apply zq|apply zb|apply zk)
  apply zr;intro _
  repeat (first|apply zq|apply zb|apply zk)
  refine AWp.loop (fun v:Nat=>⟨[(2,homsV L),(20,claims (insA (clB f f.Blocks.length))),(22,.i64 c),(23,.i64 v)],[]⟩) (fun v=>v≤L.length∧∀ v',v'<v→∀ i,i<(L.getD v' default).length→clB2 (insA (clB f f.Blocks.length)) L c v' i=false) (fun v=>L.length - v) 0 ⟨Nat.zero_le _,fun j hj=>absurd hj (Nat.not_lt_zero _)⟩ ?_ ?_
  ·repeat' (first|exact rfl|exact zt|apply zi)
  rintro v ⟨hv0,hk2⟩
  repeat (first|apply zq|apply zb|apply zk)
  apply zr;intro _
  repeat (first|apply zq|apply zb|apply zk)
  apply AWp.cond;apply zi<;>intro h4
  ·have hv:v<L.length:=zd h4
   have hHl:=hm_len hH v
   repeat (first|apply zq|apply zb|apply zk)
   apply zr;intro _
   repeat (first|apply zq|apply zb|apply zk)
   refine AWp.loop (fun i:Nat=>⟨[(2,homsV L),(20,claims (insA (clB f f.Blocks.length))),(22,.i64 c),(23,.i64 v),(24,.i64 i)],[]⟩) (fun i=>i≤(L.getD v default).length∧∀ i',i'<i→clB2 (insA (clB f f.Blocks.length)) L c v i'=false) (fun i=>(L.getD v default).length - i) 0 ⟨Nat.zero_le _,fun j hj=>absurd hj (Nat.not_lt_zero _)⟩ ?_ ?_
   ·repeat' (first|exact rfl|exact zt|apply zi)
   rintro i ⟨hi0,hk3⟩
   repeat (first|apply zq|apply zb|apply zk)
   apply zr
   repeat' (first|exact zt|apply zi|fail)
   all_goals first|exact fun _=>nn hv|exact fun hh=>hh|exact gT|exact gF|exact gN|exact gA|(intro hh; simpa using hh)|skip
   intro _
   repeat (first|apply zq|apply zb|apply zk)
   apply AWp.cond;apply zi<;>intro h6
   ·have hi:i<(L.getD v default).length:=zd h6
    repeat (first|apply zq|apply zb|apply zk)
    apply zr
    repeat' (first|exact zt|apply zi|fail)
    all_goals first|exact fun _=>nn hv|exact fun _=>nn hi|exact fun hh=>hh|exact gT|exact gF|exact gN|exact gA|(intro hh; simpa using hh)|skip
    intro _
    refine AWp.freezeObj 25 rfl rfl ?_
    repeat (first|apply zq|apply zb|apply zk)
    refine AWp.draw mixed (by kernel_rfl) ?_
    repeat' (first|exact zt|apply zi|fail)
    all_goals first|exact fun _=>nn hc|exact fun hh=>hh|exact gT|exact gF|exact gN|exact gA|(intro hh; simpa using hh)|skip
    intro _
    repeat (first|apply zq|apply zb|apply zk)
    apply AWp.cond;apply zi<;>intro h7
    ·have h7:clB2 (insA (clB f f.Blocks.length)) L c v i=true:=cl_eq.symm.trans h7
     repeat (first|apply zq|apply zb|apply zk)
     apply zr;intro _
     refine AWp.ret ⟨Or.inl rfl,rfl,?_⟩
     intro _
     exact tupI (hmF_6 h0 hb hn hg hnt ⟨c,v,i,hc,hv,hi,h7⟩).symm
    have h7:clB2 (insA (clB f f.Blocks.length)) L c v i=false:=cl_eq.symm.trans h7
    refine AWp.skip ?_
    repeat (first|apply zq|apply zb|apply zk)
    apply zr;intro _
    refine round_end (i+1) ⟨hi,upto_succ (p:=fun i=>clB2 (insA (clB f f.Blocks.length)) L c v i=false) hk3 h7⟩ ?_ (by omega)
    repeat' (first|exact rfl|exact zt|exact zw hi hHl|apply zi)
   have hi3:¬ (i:Int)<(L.getD v default).length:=of_decide_eq_false h6
   obtain rfl:i=(L.getD v default).length:=by omega
   apply ze
   repeat (first|apply zq|apply zb|apply zk)
   apply zr;intro _
   refine round_end (v+1) ⟨hv,upto_succ (p:=fun v=>∀ i,i<(L.getD v default).length→clB2 (insA (clB f f.Blocks.length)) L c v i=false) hk2 hk3⟩ ?_ (by omega)
   repeat' (first|exact rfl|exact zt|exact zw hv hlen|apply zi)
  have hv3:¬ (v:Int)<L.length:=of_decide_eq_false h4
  obtain rfl:v=L.length:=by omega
  apply ze
  repeat (first|apply zq|apply zb|apply zk)
  apply zr;intro _
  refine round_end (c+1) ⟨hc,upto_succ (p:=fun c=>∀ v,v<L.length→∀ i,i<(L.getD v default).length→clB2 (insA (clB f f.Blocks.length)) L c v i=false) hk1 hk2⟩ ?_ (by omega)
  repeat' (first|exact rfl|exact zt|exact zw hc hcm|apply zi)
 have hc3:¬ (c:Int)<(insA (clB f f.Blocks.length)).length:=of_decide_eq_false h3
 obtain rfl:c=(insA (clB f f.Blocks.length)).length:=by omega
 apply ze
 repeat (first|apply zq|apply zb|apply zk)
 apply zr;intro _
 refine AWp.ret ⟨Or.inl rfl,rfl,?_⟩
 intro _
 exact tupI (hmF_7 h0 hb hn hg hnt (no_cl hk1)).symm
end Go.Proofs.YtbmccmbgnkbmiaaGreat

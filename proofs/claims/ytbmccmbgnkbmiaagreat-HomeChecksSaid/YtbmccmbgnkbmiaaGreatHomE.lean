/- Contract of home.Check. Condition: a checked function. -/
import Derived.Test.YtbmccmbgnkbmiaaGreatHomD
set_option linter.unusedVariables false
set_option linter.unusedSimpArgs false
namespace Go.Proofs.YtbmccmbgnkbmiaaGreat
open Go Go.Abs Go.RowKit
theorem hm_len {L:List (List Hom)} (h:∀ H,H∈L→H.length≤maxLen) (v:Nat):(L.getD v default).length≤maxLen:=by
 by_cases hv:v<L.length
 ·exact h _ (getD_mem hv)
 ·rw [List.getD_eq_getElem?_getD,List.getElem?_eq_none (by omega)]
  exact Nat.zero_le _
theorem upto_succ {p:Nat→Prop} {k:Nat} (h:∀ j,j<k→p j) (h2:p k):∀ j,j<k+1→p j:=fun j hj=>by
 by_cases e:j=k
 ·rw [e]; exact h2
 ·exact h j (by omega)
theorem spL_in {f:Fun} {m:Mch} (h0:chkF f m=0) (hC:Chkd f) {v:Nat} (hv:v<f.Values.length):∀ s,s∈spL f (v:Int) f.Blocks.length→0≤s.1∧s.2≤startF f.Blocks f.Blocks.length:=fun s hs=>by
 obtain ⟨h1,h2⟩:=spL_srt h0 hC hv f.Blocks.length (Nat.le_refl _)
 exact ⟨(srtS_ge h1 s hs).1,h2 s hs⟩
theorem spL_len {f:Fun} {m:Mch} (h0:chkF f m=0) (hC:Chkd f) {v:Nat} (hv:v<f.Values.length):(spL f (v:Int) f.Blocks.length).length≤maxLen:=by
 have h1:=(spI_of h0 hC hv f.Blocks.length (Nat.le_refl _)).len
 have h2:=hC.e.siz.blocks
 unfold maxLen; omega
section
variable {L : List (List Hom)} {C : List C5}
theorem no_tw (h:∀ v,v<L.length→∀ w,w<v→∀ i,i<(L.getD v default).length→∀ k,k<(L.getD w default).length→twB L v w i k=false):¬ TwP L:=by
 rintro ⟨v,w,i,k,hv,hw,hi,hk,e⟩
 rw [h v hv w hw i hi k hk] at e; cases e
theorem no_cl (h:∀ c,c<C.length→∀ v,v<L.length→∀ i,i<(L.getD v default).length→clB2 C L c v i=false):¬ ClP C L:=by
 rintro ⟨c,v,i,hc,hv,hi,e⟩
 rw [h c hc v hv i hi] at e; cases e
end
set_option maxRecDepth 8000 in
set_option maxHeartbeats 16000000 in
theorem c_HomeCheck (f:Fun) (m:Mch) (L:List (List Hom)) (fr:Int) (hok:Fun.ok f) {d:Nat→Int} (hT:TrOk f d) (hC:Chkd f) (hc0:chkF f m=0) (h0:flwF f m=0) (hz:SizOk f) (hV:VOk f) (hcl:∀ b a,b<f.Blocks.length→a<(f.Blocks.getD b default).Instrs.length→ClmOk f (xAt f b a)) (hlen:L.length≤maxLen) (hH:∀ H,H∈L→H.length≤maxLen) (hcm:(insA (clB f f.Blocks.length)).length≤maxLen) :
  ACallIs B.P 6 [f.av,m.av,homsV L,.i64 fr] (.i64 (hmF f m L fr)):=by
 have hvm:f.Values.length≤maxLen:=by have:=hV.1; unfold maxLen; omega
 refine ACallIs.enter B _ _ Tryz.func6 rfl rfl Tryz.ntmps6 Tryz.results6 rfl fun _=>?_
 repeat (first|apply zq|apply zb|apply zk)
 apply zr;intro _
 refine AWp.freezeObj 4 rfl rfl ?_
 refine AWp.freezeObj 5 rfl rfl ?_
 repeat (first|apply zq|apply zb|apply zk)
 apply zr
 repeat' (first|exact zt|apply zi|refine CallX.pure (c_Spans f m hok hT hC hc0 h0) rfl rfl rfl ?_|fail)
 intro _
 repeat (first|apply zq|apply zb|apply zk)
 apply zr;intro _
 repeat (first|apply zq|apply zb|apply zk)
 apply AWp.cond;apply zi<;>intro h1
 ·exact absurd h1 (by decide)
 refine AWp.skip ?_
 repeat (first|apply zq|apply zb|apply zk)
 apply zr
 repeat' (first|exact zt|apply zi|fail)
 all_goals first|exact fun hh=>hh|exact gT|exact gF|exact gN|exact gA|(intro hh; simpa using hh)|skip
 intro _
 repeat (first|apply zq|apply zb|apply zk)
 apply AWp.cond;apply zi<;>intro h1
 ·have h1:(bif decide (fr<0) then true else decide (fr≥500))=true:=h1
  have hb:fr<0∨500≤fr:=by
   rw [bif_or3] at h1
   simp only [Bool.or_eq_true,decide_eq_true_eq] at h1
   omega
  repeat (first|apply zq|apply zb|apply zk)
  apply zr;intro _
  refine AWp.ret ⟨Or.inl rfl,rfl,?_⟩
  intro _
  exact tupI (hmF_2 h0 hb).symm
 have hb:¬ (fr<0∨500≤fr):=by
  have h1:(bif decide (fr<0) then true else decide (fr≥500))=false:=h1
  rw [bif_or3] at h1
  simp only [Bool.or_eq_false_iff,decide_eq_false_iff_not] at h1
  omega
 refine AWp.skip ?_
 repeat (first|apply zq|apply zb|apply zk)
 apply zr;intro _
 repeat (first|apply zq|apply zb|apply zk)
 apply AWp.cond;apply zi<;>intro h2
 ·have h2:((L.length:Int) != (f.Values.length:Int))=true:=h2
  have hn:L.length≠f.Values.length:=fun e=>by rw [e] at h2; simp at h2
  repeat (first|apply zq|apply zb|apply zk)
  apply zr;intro _
  refine AWp.ret ⟨Or.inl rfl,rfl,?_⟩
  intro _
  exact tupI (hmF_3 h0 hb hn).symm
 have hn:L.length=f.Values.length:=by
  have h2:((L.length:Int) != (f.Values.length:Int))=false:=h2
  simp only [bne_eq_false_iff_eq] at h2
  omega
 refine AWp.skip ?_
 repeat (first|apply zq|apply zb|apply zk)
 apply zr
 repeat' (first|exact zt|apply zi|refine CallX.pure (c_seams f hC hok) rfl rfl rfl ?_|fail)
 intro _
 repeat (first|apply zq|apply zb|apply zk)
 apply zr;intro _
 repeat (first|apply zq|apply zb|apply zk)
 refine AWp.loop (fun v:Nat=>⟨[(2,homsV L),(4,.ptr f.cells),(5,.ptr m.cells),(3,.i64 fr),(9,spsV f),(11,seamV f),(52,homsV L),(53,.i64 L.length),(54,.i64 v)],[]⟩) (fun v=>v≤L.length∧∀ j,j<v→hmV f m L fr j=0) (fun v=>L.length - v) 0 ⟨Nat.zero_le _,fun j hj=>absurd hj (Nat.not_lt_zero _)⟩ ?_ ?_
 ·repeat' (first|exact rfl|exact zt|apply zi)
 rintro v ⟨hv0,hg⟩
 repeat (first|apply zq|apply zb|apply zk)
 apply zr;intro _
 repeat (first|apply zq|apply zb|apply zk)
 apply AWp.cond;apply zi<;>intro h3
 ·have hv:v<L.length:=zd h3
  have hv2:v<f.Values.length:=by omega
  have hHl:=hm_len hH v
  repeat (first|apply zq|apply zb|apply zk)
  apply zr
  repeat' (first|exact zt|apply zi|fail)
  all_goals first|exact fun _=>nn hv|exact fun hh=>hh|exact gT|exact gF|exact gN|exact gA|(intro hh; simpa using hh)|skip
  intro _
  repeat (first|apply zq|apply zb|apply zk)
  apply zr
  repeat' (first|exact zt|apply zi|refine CallX.pure (c_cover f (spL f (v:Int) f.Blocks.length) (L.getD v default) (spL_len hc0 hC hv2) hHl (spL_in hc0 hC hv2)) rfl rfl rfl ?_|fail)
  all_goals first|exact fun _=>nn hv2|exact fun hh=>hh|exact gT|exact gF|exact gN|exact gA|(intro hh; simpa using hh)|skip
  intro _
  repeat (first|apply zq|apply zb|apply zk)
  apply AWp.cond;apply zi<;>intro h4
  ·have h4:cov (smN f) (spL f (v:Int) f.Blocks.length) (L.getD v default)=false:=by simpa using h4
   repeat (first|apply zq|apply zb|apply zk)
   apply zr;intro _
   refine AWp.ret ⟨Or.inl rfl,rfl,?_⟩
   intro _
   exact tupI ((hmF_4 h0 hb hn hv hg (by rw [hmV_4 h4]; decide)).trans (hmV_4 h4)).symm
  have h4:cov (smN f) (spL f (v:Int) f.Blocks.length) (L.getD v default)=true:=by simpa using h4
  refine AWp.skip ?_
  repeat (first|apply zq|apply zb|apply zk)
  apply zr;intro _
  repeat (first|apply zq|apply zb|apply zk)
  refine AWp.loop (fun i:Nat=>⟨[(2,homsV L),(4,.ptr f.cells),(5,.ptr m.cells),(3,.i64 fr),(9,spsV f),(11,seamV f),(52,homsV L),(53,.i64 L.length),(54,.i64 v),(12,.i64 v),(13,homV (L.getD v default)),(67,homV (L.getD v default)),(68,.i64 (L.getD v default).length),(69,.i64 i)],[]⟩) (fun i=>i≤(L.getD v default).length∧∀ j,j<i→plB f m fr v (hAt L v j).P=true) (fun i=>(L.getD v default).length - i) 0 ⟨Nat.zero_le _,fun j hj=>absurd hj (Nat.not_lt_zero _)⟩ ?_ ?_
  ·repeat' (first|exact rfl|exact zt|apply zi)
  rintro i ⟨hi0,hp⟩
  repeat (first|apply zq|apply zb|apply zk)
  apply zr;intro _
  repeat (first|apply zq|apply zb|apply zk)
  apply AWp.cond;apply zi<;>intro h5
  ·have hi:i<(L.getD v default).length:=zd h5
   repeat (first|apply zq|apply zb|apply zk)
   apply zr
   repeat' (first|exact zt|apply zi|fail)
   all_goals first|exact fun _=>nn hi|exact fun hh=>hh|exact gT|exact gF|exact gN|exact gA|(intro hh; simpa using hh)|skip
   intro _
   refine AWp.freezeObj 15 rfl rfl ?_
   repeat (first|apply zq|apply zb|apply zk)
   apply zr
   repeat' (first|exact zt|apply zi|refine CallX.pure (c_plH f m hV fr v hv2 (hAt L v i).P) rfl rfl rfl ?_|fail)
   intro _
   repeat (first|apply zq|apply zb|apply zk)
   apply AWp.cond;apply zi<;>intro h6
   ·have h6:plB f m fr v (hAt L v i).P=false:=by simpa using h6
    repeat (first|apply zq|apply zb|apply zk)
    apply zr;intro _
    refine AWp.ret ⟨Or.inl rfl,rfl,?_⟩
    intro _
    exact tupI ((hmF_4 h0 hb hn hv hg (by rw [hmV_2 h4 hi h6]; decide)).trans (hmV_2 h4 hi h6)).symm
   have h6:plB f m fr v (hAt L v i).P=true:=by simpa using h6
   refine AWp.skip ?_
   repeat (first|apply zq|apply zb|apply zk)
   apply zr;intro _
   refine round_end (i+1) ⟨hi,upto_succ hp h6⟩ ?_ (by omega)
   repeat' (first|exact rfl|exact zt|exact zw hi hHl|apply zi)
  have hi3:¬ (i:Int)<(L.getD v default).length:=of_decide_eq_false h5
  obtain rfl:i=(L.getD v default).length:=by omega
  apply ze
  repeat (first|apply zq|apply zb|apply zk)
  apply zr;intro _
  refine round_end (v+1) ⟨hv,upto_succ hg (hmV_0 h4 hp)⟩ ?_ (by omega)
  repeat' (first|exact rfl|exact zt|exact zw hv hlen|apply zi)
 have hv3:¬ (v:Int)<L.length:=of_decide_eq_false h3
 obtain rfl:v=L.length:=by omega
 apply ze
 repeat (first|apply zq|apply zb|apply zk)
 apply zr;intro _
 repeat (first|apply zq|apply zb|apply zk)
 refine AWp.loop (fun v:Nat=>⟨[(2,homsV L),(4,.ptr f.cells),(5,.ptr m.cells),(83,homsV L),(84,.i64 L.length),(85,.i64 v)],[]⟩) (fun v=>v≤L.length∧∀ v',v'<v→∀ w,w<v'→∀ i,i<(L.getD v' default).length→∀ k,k<(L.getD w default).length→twB L v' w i k=false) (fun v=>L.length - v) 0 ⟨Nat.zero_le _,fun j hj=>absurd hj (Nat.not_lt_zero _)⟩ ?_ ?_
 ·repeat' (first|exact rfl|exact zt|apply zi)
 rintro v ⟨hv0,ht1⟩
 repeat (first|apply zq|apply zb|apply zk)
 apply zr;intro _
 repeat (first|apply zq|apply zb|apply zk)
 apply AWp.cond;apply zi<;>intro h3
 ·have hv:v<L.length:=zd h3
  have hHl:=hm_len hH v
  repeat (first|apply zq|apply zb|apply zk)
  apply zr
  repeat' (first|exact zt|apply zi|fail)
  all_goals first|exact fun _=>nn hv|exact fun hh=>hh|exact gT|exact gF|exact gN|exact gA|(intro hh; simpa using hh)|skip
  intro _
  repeat (first|apply zq|apply zb|apply zk)
  apply zr;intro _
  repeat (first|apply zq|apply zb|apply zk)
  refine AWp.loop (fun w:Nat=>⟨[(2,homsV L),(4,.ptr f.cells),(5,.ptr m.cells),(83,homsV L),(84,.i64 L.length),(85,.i64 v),(16,.i64 v),(17,homV (L.getD v default)),(90,.i64 v),(91,.i64 w)],[]⟩) (fun w=>w≤v∧∀ w',w'<w→∀ i,i<(L.getD v default).length→∀ k,k<(L.getD w' default).length→twB L v w' i k=false) (fun w=>v - w) 0 ⟨Nat.zero_le _,fun j hj=>absurd hj (Nat.not_lt_zero _)⟩ ?_ ?_
  ·repeat' (first|exact rfl|exact zt|apply zi)
  rintro w ⟨hw0,ht2⟩
  repeat (first|apply zq|apply zb|apply zk)
  apply zr;intro _
  repeat (first|apply zq|apply zb|apply zk)
  apply AWp.cond;apply zi<;>intro h4
  ·have hw:w<v:=zd h4
   have hwl:w<L.length:=by omega
   repeat (first|apply zq|apply zb|apply zk)
   apply zr;intro _
   repeat (first|apply zq|apply zb|apply zk)
   apply zr;intro _
   repeat (first|apply zq|apply zb|apply zk)
   refine AWp.loop (fun i:Nat=>⟨[(2,homsV L),(4,.ptr f.cells),(5,.ptr m.cells),(83,homsV L),(84,.i64 L.length),(85,.i64 v),(16,.i64 v),(17,homV (L.getD v default)),(90,.i64 v),(91,.i64 w),(18,.i64 w),(94,homV (L.getD v default)),(95,.i64 (L.getD v default).length),(96,.i64 i)],[]⟩) (fun i=>i≤(L.getD v default).length∧∀ i',i'<i→∀ k,k<(L.getD w default).length→twB L v w i' k=false) (fun i=>(L.getD v default).length - i) 0 ⟨Nat.zero_le _,fun j hj=>absurd hj (Nat.not_lt_zero _)⟩ ?_ ?_
   ·repeat' (first|exact rfl|exact zt|apply zi)
   rintro i ⟨hi0,ht3⟩
   repeat (first|apply zq|apply zb|apply zk)
   apply zr;intro _
   repeat (first|apply zq|apply zb|apply zk)
   apply AWp.cond;apply zi<;>intro h5
   ·have hi:i<(L.getD v default).length:=zd h5
    repeat (first|apply zq|apply zb|apply zk)
    apply zr
    repeat' (first|exact zt|apply zi|fail)
    all_goals first|exact fun _=>nn hi|exact fun hh=>hh|exact gT|exact gF|exact gN|exact gA|(intro hh; simpa using hh)|skip
    intro _
    refine AWp.freezeObj 20 rfl rfl ?_
    repeat (first|apply zq|apply zb|apply zk)
    apply zr
    repeat' (first|exact zt|apply zi|refine CallX.pure (c_ConH (L.getD w default) (hAt L v i) (hm_len hH w)) rfl rfl rfl ?_|fail)
    all_goals first|exact fun _=>nn hwl|exact fun hh=>hh|exact gT|exact gF|exact gN|exact gA|(intro hh; simpa using hh)|skip
    intro _
    repeat (first|apply zq|apply zb|apply zk)
    apply AWp.cond;apply zi<;>intro h6
    ·obtain ⟨k,hk,e⟩:=anyB_ex h6
     repeat (first|apply zq|apply zb|apply zk)
     apply zr;intro _
     refine AWp.ret ⟨Or.inl rfl,rfl,?_⟩
     intro _
     exact tupI (hmF_5 h0 hb hn hg ⟨v,w,i,k,hv,hw,hi,hk,e⟩).symm
    have h6:=anyB_all h6
    refine AWp.skip ?_
    repeat (first|apply zq|apply zb|apply zk)
    apply zr;intro _
    refine round_end (i+1) ⟨hi,upto_succ (p:=fun i=>∀ k,k<(L.getD w default).length→twB L v w i k=false) ht3 h6⟩ ?_ (by omega)
    repeat' (first|exact rfl|exact zt|exact zw hi hHl|apply zi)
   have hi3:¬ (i:Int)<(L.getD v default).length:=of_decide_eq_false h5
   obtain rfl:i=(L.getD v default).length:=by omega
   apply ze
   repeat (first|apply zq|apply zb|apply zk)
   apply zr;intro _
   refine round_end (w+1) ⟨hw,upto_succ (p:=fun w=>∀ i,i<(L.getD v default).length→∀ k,k<(L.getD w default).length→twB L v w i k=false) ht2 ht3⟩ ?_ (by omega)
   repeat' (first|exact rfl|exact zt|exact zw hw (show v≤maxLen by omega)|apply zi)
  have hw3:¬ (w:Int)<v:=of_decide_eq_false h4
  obtain rfl:w=v:=by omega
  apply ze
  repeat (first|apply zq|apply zb|apply zk)
  apply zr;intro _
  refine round_end (w+1) ⟨hv,upto_succ (p:=fun v=>∀ w,w<v→∀ i,i<(L.getD v default).length→∀ k,k<(L.getD w default).length→twB L v w i k=false) ht1 ht2⟩ ?_ (by omega)
  repeat' (first|exact rfl|exact zt|exact zw hv hlen|apply zi)
 have hv3:¬ (v:Int)<L.length:=of_decide_eq_false h3
 obtain rfl:v=L.length:=by omega
 apply ze
 have hnt:=no_tw ht1
 repeat (first|apply zq|apply zb|apply zk)
 apply zr
 repeat' (first|exact zt|apply zi|refine CallX.pure (c_Claims f m hok hz h0 hcl) rfl rfl rfl ?_|fail)
 intro _
 repeat (first|apply zq|apply zb|apply zk)
 apply zr;intro _
 repeat (first|apply zq|apply zb|apply zk)
 refine AWp.loop (fun c:Nat=>⟨[(2,homsV L),(115,claims (insA (clB f f.Blocks.length))),(116,.i64 (insA (clB f f.Blocks.length)).length),(117,.i64 c)],[]⟩) (fun c=>c≤(insA (clB f f.Blocks.length)).length∧∀ c',c'<c→∀ v,v<L.length→∀ i,i<(L.getD v default).length→clB2 (insA (clB f f.Blocks.length)) L c' v i=false) (fun c=>(insA (clB f f.Blocks.length)).length - c) 0 ⟨Nat.zero_le _,fun j hj=>absurd hj (Nat.not_lt_zero _)⟩ ?_ ?_
 ·repeat' (first|exact rfl|exact zt|apply zi)
 rintro c ⟨hc1,hk1⟩
 repeat (first|apply zq|apply zb|apply zk)
 apply zr;intro _
 repeat (first|apply zq|apply zb|apply zk)
 apply AWp.cond;apply zi<;>intro h3
 ·have hc:c<(insA (clB f f.Blocks.length)).length:=zd h3
  repeat (first|apply zq|apply zb|apply zk)
  apply zr
  repeat' (first|exact zt|apply zi|fail)
  all_goals first|exact fun _=>nn hc|exact fun hh=>hh|exact gT|exact gF|exact gN|exact gA|(intro hh; simpa using hh)|skip
  intro _
  refine AWp.freezeObj 24 rfl rfl ?_
  repeat (first|apply zq|apply zb|apply zk)
  apply zr;intro _
  repeat (first|apply zq|apply zb|apply zk)
  refine AWp.loop (fun v:Nat=>⟨[(2,homsV L),(115,claims (insA (clB f f.Blocks.length))),(116,.i64 (insA (clB f f.Blocks.length)).length),(117,.i64 c),(24,.ptr (clA ((insA (clB f f.Blocks.length)).getD c default))),(121,homsV L),(122,.i64 L.length),(123,.i64 v)],[]⟩) (fun v=>v≤L.length∧∀ v',v'<v→∀ i,i<(L.getD v' default).length→clB2 (insA (clB f f.Blocks.length)) L c v' i=false) (fun v=>L.length - v) 0 ⟨Nat.zero_le _,fun j hj=>absurd hj (Nat.not_lt_zero _)⟩ ?_ ?_
  ·repeat' (first|exact rfl|exact zt|apply zi)
  rintro v ⟨hv0,hk2⟩
  repeat (first|apply zq|apply zb|apply zk)
  apply zr;intro _
  repeat (first|apply zq|apply zb|apply zk)
  apply AWp.cond;apply zi<;>intro h4
  ·have hv:v<L.length:=zd h4
   have hHl:=hm_len hH v
   repeat (first|apply zq|apply zb|apply zk)
   apply zr
   repeat' (first|exact zt|apply zi|fail)
   all_goals first|exact fun _=>nn hv|exact fun hh=>hh|exact gT|exact gF|exact gN|exact gA|(intro hh; simpa using hh)|skip
   intro _
   repeat (first|apply zq|apply zb|apply zk)
   apply zr;intro _
   repeat (first|apply zq|apply zb|apply zk)
   apply AWp.cond;apply zi<;>intro h5
   ·have h5:((v:Int)==((insA (clB f f.Blocks.length)).getD c default).2.2.2.2)=true:=h5
    apply ze
    repeat (first|apply zq|apply zb|apply zk)
    apply zr;intro _
    refine round_end (v+1) ⟨hv,upto_succ (p:=fun v=>∀ i,i<(L.getD v default).length→clB2 (insA (clB f f.Blocks.length)) L c v i=false) hk2 fun i hi=>?_⟩ ?_ (by omega)
    ·unfold clB2
     rw [show ((v:Int) != ((insA (clB f f.Blocks.length)).getD c default).2.2.2.2)=false by unfold bne; rw [h5]; rfl]
     rfl
    repeat' (first|exact rfl|exact zt|exact zw hv hlen|apply zi)
   have h5:((v:Int)==((insA (clB f f.Blocks.length)).getD c default).2.2.2.2)=false:=h5
   have h5:((v:Int) != ((insA (clB f f.Blocks.length)).getD c default).2.2.2.2)=true:=by unfold bne; rw [h5]; rfl
   refine AWp.skip ?_
   repeat (first|apply zq|apply zb|apply zk)
   apply zr;intro _
   repeat (first|apply zq|apply zb|apply zk)
   refine AWp.loop (fun i:Nat=>⟨[(2,homsV L),(115,claims (insA (clB f f.Blocks.length))),(116,.i64 (insA (clB f f.Blocks.length)).length),(117,.i64 c),(24,.ptr (clA ((insA (clB f f.Blocks.length)).getD c default))),(121,homsV L),(122,.i64 L.length),(123,.i64 v),(25,.i64 v),(26,homV (L.getD v default)),(132,homV (L.getD v default)),(133,.i64 (L.getD v default).length),(134,.i64 i)],[]⟩) (fun i=>i≤(L.getD v default).length∧∀ i',i'<i→clB2 (insA (clB f f.Blocks.length)) L c v i'=false) (fun i=>(L.getD v default).length - i) 0 ⟨Nat.zero_le _,fun j hj=>absurd hj (Nat.not_lt_zero _)⟩ ?_ ?_
   ·repeat' (first|exact rfl|exact zt|apply zi)
   rintro i ⟨hi0,hk3⟩
   repeat (first|apply zq|apply zb|apply zk)
   apply zr;intro _
   repeat (first|apply zq|apply zb|apply zk)
   apply AWp.cond;apply zi<;>intro h6
   ·have hi:i<(L.getD v default).length:=zd h6
    repeat (first|apply zq|apply zb|apply zk)
    apply zr
    repeat' (first|exact zt|apply zi|fail)
    all_goals first|exact fun _=>nn hi|exact fun hh=>hh|exact gT|exact gF|exact gN|exact gA|(intro hh; simpa using hh)|skip
    intro _
    refine AWp.freezeObj 28 rfl rfl ?_
    repeat (first|apply zq|apply zb|apply zk)
    apply zr
    repeat' (first|exact zt|apply zi|refine CallK.intro (fun _=>c_meet (hAt L v i).From (hAt L v i).To ((insA (clB f f.Blocks.length)).getD c default).2.2.1 ((insA (clB f f.Blocks.length)).getD c default).2.2.2.1) ?_|fail)
    all_goals first|exact fun hh=>hh|exact gT|exact gF|exact gN|exact gA|(intro hh; simpa using hh)|skip
    intro _
    have he:(bif (((hAt L v i).P.Kind==1)&&(((hAt L v i).P.Class==((insA (clB f f.Blocks.length)).getD c default).1)&&(((hAt L v i).P.N==((insA (clB f f.Blocks.length)).getD c default).2.1)&&true))) then meB (hAt L v i).From (hAt L v i).To ((insA (clB f f.Blocks.length)).getD c default).2.2.1 ((insA (clB f f.Blocks.length)).getD c default).2.2.2.1 else false)=clB2 (insA (clB f f.Blocks.length)) L c v i:=by
     rw [bif_and3,plc_eq (hAt L v i).P ⟨1,((insA (clB f f.Blocks.length)).getD c default).1,((insA (clB f f.Blocks.length)).getD c default).2.1⟩]
     unfold clB2
     rw [h5,Bool.true_and]
    repeat (first|apply zq|apply zb|apply zk)
    apply AWp.cond;apply zi<;>intro h7
    ·have h7:clB2 (insA (clB f f.Blocks.length)) L c v i=true:=he.symm.trans h7
     repeat (first|apply zq|apply zb|apply zk)
     apply zr;intro _
     refine AWp.ret ⟨Or.inl rfl,rfl,?_⟩
     intro _
     exact tupI (hmF_6 h0 hb hn hg hnt ⟨c,v,i,hc,hv,hi,h7⟩).symm
    have h7:clB2 (insA (clB f f.Blocks.length)) L c v i=false:=he.symm.trans h7
    refine AWp.skip ?_
    repeat (first|apply zq|apply zb|apply zk)
    apply zr;intro _
    refine round_end (i+1) ⟨hi,upto_succ (p:=fun i=>clB2 (insA (clB f f.Blocks.length)) L c v i=false) hk3 h7⟩ ?_ (by omega)
    repeat' (first|exact rfl|exact zt|exact zw hi hHl|apply zi)
   have hi3:¬ (i:Int)<(L.getD v default).length:=of_decide_eq_false h6
   obtain rfl:i=(L.getD v default).length:=by omega
   apply ze
   repeat (first|apply zq|apply zb|apply zk)
   apply zr;intro _
   refine round_end (v+1) ⟨hv,upto_succ (p:=fun v=>∀ i,i<(L.getD v default).length→clB2 (insA (clB f f.Blocks.length)) L c v i=false) hk2 hk3⟩ ?_ (by omega)
   repeat' (first|exact rfl|exact zt|exact zw hv hlen|apply zi)
  have hv3:¬ (v:Int)<L.length:=of_decide_eq_false h4
  obtain rfl:v=L.length:=by omega
  apply ze
  repeat (first|apply zq|apply zb|apply zk)
  apply zr;intro _
  refine round_end (c+1) ⟨hc,upto_succ (p:=fun c=>∀ v,v<L.length→∀ i,i<(L.getD v default).length→clB2 (insA (clB f f.Blocks.length)) L c v i=false) hk1 hk2⟩ ?_ (by omega)
  repeat' (first|exact rfl|exact zt|exact zw hc hcm|apply zi)
 have hc3:¬ (c:Int)<(insA (clB f f.Blocks.length)).length:=of_decide_eq_false h3
 obtain rfl:c=(insA (clB f f.Blocks.length)).length:=by omega
 apply ze
 repeat (first|apply zq|apply zb|apply zk)
 apply zr;intro _
 refine AWp.ret ⟨Or.inl rfl,rfl,?_⟩
 intro _
 exact tupI (hmF_7 h0 hb hn hg hnt (no_cl hk1)).symm
end Go.Proofs.YtbmccmbgnkbmiaaGreat

/- judge.Known: the contracts of the walk over blocks. Condition: an output that may be. -/
import Derived.Test.YtbmccmbgnkbmiaaGreatJud
import Derived.Test.YtbmccmbgnkbmiaaGreatDom
set_option linter.unusedVariables false
set_option linter.unusedSimpArgs false
namespace Go.Proofs.YtbmccmbgnkbmiaaGreat
open Go Go.Abs Go.RowKit Go.Abs.Gra
section
variable {W N b : Nat} {vis : Nat → Bool}
end
def visT (vis:Nat→Bool) (t:Nat):Nat→Bool:=fun b=>vis b||decide (b=t)
def updP (P:Nat→Knw) (t:Nat) (K:Knw):Nat→Knw:=fun b=>if b=t then K else P b
theorem updP_same {P:Nat→Knw} {t:Nat} {K:Knw}:updP P t K t=K:=if_pos rfl
theorem updP_ne {P:Nat→Knw} {t b:Nat} {K:Knw} (h:b≠t):updP P t K b=P b:=if_neg h
theorem vis_new {vis:Nat→Bool} {t b:Nat} (h:visT vis t b=true) (e:b≠t):vis b=true:=by
 unfold visT at h; rw [decide_eq_false e,Bool.or_false] at h; exact h
def inS (S C:Nat→Bool) (w:Nat):Nat→Bool:=fun v=>S v&&(C v||!decide (v / 64<w))
def metK (K L:Knw):Knw:=fun c v=>K c v&&L c v
section
variable {K L : Knw} {i w j k c : Nat}
theorem anyB_succ {p:Nat→Bool} {n:Nat}:anyB p (n+1)=(anyB p n||p n):=by unfold anyB; rw [List.range_succ,List.any_append]; simp
end
@[reducible] def edT (f:Fun) (b q:Nat):Nat:=((f.Blocks.getD b default).Edges.getD q default).Block.toNat
@[reducible] def edE (f:Fun) (b q:Nat):Edg:=(f.Blocks.getD b default).Edges.getD q default
structure JI (f:Fun) (o:Oup) (N:Nat) (vis:Nat→Bool) (P:Nat→Knw) (T:List Nat):Prop where
 v0:vis 0=true
 p0:P 0=fun _=>nonS
 lo:∀ b,b<f.Blocks.length→vis b=true→Le N f.Values.length (sur f o N b) (P b)
 sp:∀ b,b<f.Blocks.length→vis b=true→Spt f.Values.length (P b)
 nd:T.Nodup
 td:∀ b∈T,b<f.Blocks.length∧vis b=true
def Ed1 (f:Fun) (o:Oup) (N:Nat) (vis:Nat→Bool) (P:Nat→Knw) (s:Knw) (b q:Nat):Prop :=
 vis (edT f b q)=true∧Le N f.Values.length (P (edT f b q)) (alK f (edE f b q) s)
def EdA (f:Fun) (o:Oup) (N:Nat) (vis:Nat→Bool) (P:Nat→Knw) (b:Nat):Prop:=∀ q,q<(f.Blocks.getD b default).Edges.length→Ed1 f o N vis P (thK f o b (P b)) b q
structure JO (f:Fun) (o:Oup) (N:Nat) (vis:Nat→Bool) (P:Nat→Knw) (T:List Nat):Prop where
 i:JI f o N vis P T
 cl:∀ b,b<f.Blocks.length→vis b=true→b∉T→EdA f o N vis P b
structure JN (f:Fun) (o:Oup) (N:Nat) (b:Nat) (K0:Knw) (q:Nat) (vis:Nat→Bool) (P:Nat→Knw) (T:List Nat):Prop where
 i:JI f o N vis P T
 vb:vis b=true
 lo0:Le N f.Values.length (sur f o N b) K0
 sp0:Spt f.Values.length K0
 cl:∀ c,c<f.Blocks.length→vis c=true→c∉T→c≠b→EdA f o N vis P c
 own:b∉T→Le N f.Values.length K0 (P b)
 ed:∀ r,r<q→Ed1 f o N vis P (thK f o b K0) b r
section
variable {f : Fun} {m : Mch} {o : Oup} {fr : Nat} {vis : Nat → Bool} {P : Nat → Knw} {T : List Nat} {b q : Nat} {K0 : Knw}
theorem JN.done (hO:OutOk f m o fr) (hb:b<f.Blocks.length) (h:JN f o (22+fr) b K0 (f.Blocks.getD b default).Edges.length vis P T):JO f o (22+fr) vis P T:=by
 have hC:=chkd_of hO.chk0
 refine ⟨h.i,fun c hc hv hT=>?_⟩
 by_cases e:c=b
 ·subst e
  intro q hq
  obtain ⟨h1,h2⟩:=h.ed q hq
  refine ⟨h1,h2.trans (alK_le (thK_le hO hb (h.own hT)) fun j hj=>arg_lt hC hb hq j ?_)⟩
  rw [← edgP_len hO.chk0 hb hq]; exact hj
 ·exact h.cl c hc hv hT e
theorem edT_lt (hC:Chkd f) (hb:b<f.Blocks.length) (hq:q<(f.Blocks.getD b default).Edges.length):0<edT f b q∧edT f b q<f.Blocks.length:=by
 have:=hC.e.edge b q hb hq
 constructor<;>show _<_<;>unfold edT<;>omega
theorem along_lo (hO:OutOk f m o fr) (hb:b<f.Blocks.length) (hq:q<(f.Blocks.getD b default).Edges.length) (h:Le (22+fr) f.Values.length (sur f o (22+fr) b) K0):Le (22+fr) f.Values.length (sur f o (22+fr) (edT f b q)) (alK f (edE f b q) (thK f o b K0)):=by
 have hC:=chkd_of hO.chk0
 have hp:=sur_post (f:=f) (o:=o) hO fun b k hb hk=>edgP_len hO.chk0 hb hk
 refine (hp.edge b q hb hq).trans (alK_le (thK_le hO hb h) fun j hj=>arg_lt hC hb hq j ?_)
 rw [← edgP_len hO.chk0 hb hq]; exact hj
theorem param_lt (hC:Chkd f) {c:Nat} (hc:c<f.Blocks.length):∀ j,j<(f.Blocks.getD c default).Params.length→0≤(f.Blocks.getD c default).Params.getD j default∧(f.Blocks.getD c default).Params.getD j default<f.Values.length:=by
 intro j hj
 have hm:(f.Blocks.getD c default).Params.getD j default∈makL f:=by
  unfold makL mkB
  rw [List.mem_flatMap]
  refine ⟨f.Blocks.getD c default,?_,List.mem_append_left _ (getD_mem hj)⟩
  rw [List.take_length]; exact getD_mem hc
 exact (nodup_of hC.ok).2 _ hm
theorem along_sp (hO:OutOk f m o fr) (hb:b<f.Blocks.length) (hq:q<(f.Blocks.getD b default).Edges.length) (h:Spt f.Values.length K0):Spt f.Values.length (alK f (edE f b q) (thK f o b K0)):=by
 have hC:=chkd_of hO.chk0
 refine alK_spt (thK_spt hC hb h) fun j hj=>?_
 have:=param_lt hC (edT_lt hC hb hq).2 j hj
 show ((f.Blocks.getD (edT f b q) default).Params.getD j default).toNat<_
 omega
theorem JN.new (hO:OutOk f m o fr) (hb:b<f.Blocks.length) (hq:q<(f.Blocks.getD b default).Edges.length) (h:JN f o (22+fr) b K0 q vis P T) (hv:¬ vis (edT f b q)=true) :
  edT f b q∉T∧JN f o (22+fr) b K0 (q+1) (visT vis (edT f b q)) (updP P (edT f b q) (alK f (edE f b q) (thK f o b K0))) (T++[edT f b q]):=by
 have hC:=chkd_of hO.chk0
 obtain ⟨ht0,htn⟩:=edT_lt hC hb hq
 generalize ht:edT f b q=t at *
 have hnT:t∉T:=fun hm=>hv (h.i.td t hm).2
 have hne:∀ c,vis c=true→c≠t:=fun c hc e=>hv (by rw [← e]; exact hc)
 have vT:∀ c,vis c=true→visT vis t c=true:=fun c hc=>by unfold visT; rw [hc]; rfl
 have e1:∀ (s:Knw) (c r:Nat),Ed1 f o (22+fr) vis P s c r→Ed1 f o (22+fr) (visT vis t) (updP P t (alK f (edE f b q) (thK f o b K0))) s c r:=fun s c r ⟨g1,g2⟩=>⟨vT _ g1,by rw [updP_ne (hne _ g1)]; exact g2⟩
 refine ⟨hnT,⟨⟨vT 0 h.i.v0,?_,fun c hc hcv=>?_,fun c hc hcv=>?_,?_,fun c hc=>?_⟩,vT b h.vb,h.lo0,h.sp0,fun c hc hcv hcT hcb=>?_,fun hbT=>?_,fun r hr=>?_⟩⟩
 ·rw [updP_ne (by omega)]; exact h.i.p0
 ·by_cases e:c=t
  ·subst e; rw [updP_same,← ht]; exact along_lo hO hb hq h.lo0
  ·rw [updP_ne e]; exact h.i.lo c hc (vis_new hcv e)
 ·by_cases e:c=t
  ·subst e; rw [updP_same]; exact along_sp hO hb hq h.sp0
  ·rw [updP_ne e]; exact h.i.sp c hc (vis_new hcv e)
 ·exact List.nodup_append.2 ⟨h.i.nd,by simp,fun a ha c hc=>by simp only [List.mem_singleton] at hc; subst hc; exact fun e=>hnT (e▸ha)⟩
 ·rcases List.mem_append.1 hc with hc|hc
  ·exact ⟨(h.i.td c hc).1,vT c (h.i.td c hc).2⟩
  ·simp only [List.mem_singleton] at hc; subst hc
   exact ⟨htn,by unfold visT; rw [decide_eq_true rfl,Bool.or_true]⟩
 ·have hct:c≠t:=fun e=>hcT (List.mem_append_right _ (by simp [e]))
  have hcv':=vis_new hcv hct
  intro r hr
  rw [updP_ne hct]
  exact e1 _ c r (h.cl c hc hcv' (fun hm=>hcT (List.mem_append_left _ hm)) hcb r hr)
 ·have hbt:b≠t:=hne b h.vb
  rw [updP_ne hbt]
  exact h.own fun hm=>hbT (List.mem_append_left _ hm)
 ·by_cases e:r=q
  ·subst e
   refine ⟨by show visT vis t (edT f b r)=true; rw [ht]; unfold visT; rw [decide_eq_true rfl,Bool.or_true],?_⟩
   show Le _ _ (updP P t _ (edT f b r)) _
   rw [ht,updP_same]; exact Le.refl
  ·exact e1 _ b r (h.ed r (by omega))
theorem JN.old (hO:OutOk f m o fr) (hb:b<f.Blocks.length) (hq:q<(f.Blocks.getD b default).Edges.length) (h:JN f o (22+fr) b K0 q vis P T) (hv:vis (edT f b q)=true) {T':List Nat}
  (hT:T'=T∨(edT f b q∉T∧T'=T++[edT f b q])) (hless:edT f b q∉T'→Le (22+fr) f.Values.length (P (edT f b q)) (metK (P (edT f b q)) (alK f (edE f b q) (thK f o b K0)))) :
  JN f o (22+fr) b K0 (q+1) vis (updP P (edT f b q) (metK (P (edT f b q)) (alK f (edE f b q) (thK f o b K0)))) T':=by
 have hC:=chkd_of hO.chk0
 obtain ⟨ht0,htn⟩:=edT_lt hC hb hq
 generalize ht:edT f b q=t at *
 have hsub:∀ c,c∈T→c∈T':=fun c hc=>by
  rcases hT with rfl|⟨_,rfl⟩
  ·exact hc
  ·exact List.mem_append_left _ hc
 have dn:∀ c,Le (22+fr) f.Values.length (updP P t (metK (P t) (alK f (edE f b q) (thK f o b K0))) c) (P c):=fun c=>by
  by_cases e:c=t
  ·subst e; rw [updP_same]
   intro a v _ _ hk
   unfold metK at hk
   rw [Bool.and_eq_true] at hk; exact hk.1
  ·rw [updP_ne e]; exact Le.refl
 have up:∀ c,c∉T'→Le (22+fr) f.Values.length (P c) (updP P t (metK (P t) (alK f (edE f b q) (thK f o b K0))) c):=fun c hc=>by
  by_cases e:c=t
  ·subst e; rw [updP_same]; exact hless hc
  ·rw [updP_ne e]; exact Le.refl
 have e1:∀ (s:Knw) (c r:Nat),Ed1 f o (22+fr) vis P s c r→Ed1 f o (22+fr) vis (updP P t (metK (P t) (alK f (edE f b q) (thK f o b K0)))) s c r:=fun s c r ⟨g1,g2⟩=>⟨g1,(dn _).trans g2⟩
 refine ⟨⟨h.i.v0,?_,fun c hc hcv=>?_,fun c hc hcv=>?_,?_,fun c hc=>?_⟩,h.vb,h.lo0,h.sp0,fun c hc hcv hcT hcb=>?_,fun hbT=>?_,fun r hr=>?_⟩
 ·rw [updP_ne (by omega)]; exact h.i.p0
 ·by_cases e:c=t
  ·subst e
   rw [updP_same]
   have g1:=h.i.lo c hc hcv
   have g2:Le (22+fr) f.Values.length (sur f o (22+fr) c) (alK f (edE f b q) (thK f o b K0)):=by rw [← ht]; exact along_lo hO hb hq h.lo0
   intro a v ha hv hk
   unfold metK
   rw [g1 a v ha hv hk,g2 a v ha hv hk]; rfl
  ·rw [updP_ne e]; exact h.i.lo c hc hcv
 ·by_cases e:c=t
  ·subst e
   rw [updP_same]
   intro a v hv
   unfold metK
   rw [h.i.sp c hc hcv a v hv]; rfl
  ·rw [updP_ne e]; exact h.i.sp c hc hcv
 ·rcases hT with rfl|⟨hn,rfl⟩
  ·exact h.i.nd
  ·exact List.nodup_append.2 ⟨h.i.nd,by simp,fun a ha c hc=>by simp only [List.mem_singleton] at hc; subst hc; exact fun e=>hn (e▸ha)⟩
 ·rcases hT with rfl|⟨hn,rfl⟩
  ·exact h.i.td c hc
  ·rcases List.mem_append.1 hc with hc|hc
   ·exact h.i.td c hc
   ·simp only [List.mem_singleton] at hc; subst hc; exact ⟨htn,hv⟩
 ·intro r hr
  obtain ⟨g1,g2⟩:=h.cl c hc hcv (fun hm=>hcT (hsub c hm)) hcb r hr
  refine ⟨g1,(dn _).trans (g2.trans (alK_le (thK_le hO hc (up c hcT)) fun j hj=>arg_lt hC hc hr j ?_))⟩
  rw [← edgP_len hO.chk0 hc hr]; exact hj
 ·exact (h.own fun hm=>hbT (hsub b hm)).trans (up b hbT)
 ·by_cases e:r=q
  ·subst e
   refine ⟨by show vis (edT f b r)=true; rw [ht]; exact hv,?_⟩
   show Le _ _ (updP P t _ (edT f b r)) _
   rw [ht,updP_same]
   intro a v _ _ hk
   unfold metK at hk
   rw [Bool.and_eq_true] at hk; exact hk.2
  ·exact e1 _ b r (h.ed r (by omega))
theorem JO.fin (hO:OutOk f m o fr) (hA:AllTo f) (h:JO f o (22+fr) vis P []):∀ b,b<f.Blocks.length→vis b=true∧∀ c,c<22+fr→P b c=sur f o (22+fr) b c:=by
 have hC:=chkd_of hO.chk0
 have hv:∀ b,b<f.Blocks.length→vis b=true:=by
  have:∀ b,Rch (scF f) (-1) b→b<f.Blocks.length∧vis b=true:=by
   intro b hr
   induction hr with
   | root h0=>exact ⟨by have:=hC.e.siz.blocks; omega,h.i.v0⟩
   | @step a c _ hc2 hw ih =>
    refine ⟨hC.e.sc a c ih.1 hc2,?_⟩
    obtain ⟨j,hj,rfl⟩:∃ j,j<(f.Blocks.getD a default).Edges.length∧edT f a j=c:=by
     unfold scF at hc2
     obtain ⟨e,he,rfl⟩:=List.mem_map.1 hc2
     obtain ⟨j,hj,rfl⟩:=getD_of_mem he
     exact ⟨j,hj,rfl⟩
    exact (h.cl a ih.1 ih.2 (by simp) j hj).1
  exact fun b hb=>(this b (hA b hb)).2
 have hp:Post f o (22+fr) P:=⟨fun c v _ _=>by rw [h.i.p0]; rfl,fun b k hb hk=>(h.cl b hb (hv b hb) (by simp) k hk).2⟩
 exact fun b hb=>⟨hv b hb,fun c hc=>sur_eqS hp (h.i.lo b hb (hv b hb)) (h.i.sp b hb (hv b hb)) hc⟩
theorem JO.start (hO:OutOk f m o fr):JO f o (22+fr) (fun b=>decide (b=0)) (fun _ _=>nonS) [0]:=by
 have hC:=chkd_of hO.chk0
 have hb:=hC.e.siz.blocks
 refine ⟨⟨rfl,rfl,fun b hb hv=>?_,fun b hb hv c v _=>rfl,by simp,fun b hb2=>?_⟩,fun b hb hv hT=>?_⟩
 ·have e:b=0:=of_decide_eq_true hv
  subst e
  intro c v hc hv hk
  have hp:=sur_post (f:=f) (o:=o) hO fun b k hb hk=>edgP_len hO.chk0 hb hk
  rw [hp.none c v hc hv] at hk; cases hk
 ·simp only [List.mem_singleton] at hb2; subst hb2; exact ⟨by omega,rfl⟩
 ·have e:b=0:=of_decide_eq_true hv
  subst e; exact absurd (List.mem_singleton.2 rfl) hT
end
section
variable {n N V t : Nat} {vis : Nat → Bool} {P : Nat → Knw} {L : Knw}
end
end Go.Proofs.YtbmccmbgnkbmiaaGreat

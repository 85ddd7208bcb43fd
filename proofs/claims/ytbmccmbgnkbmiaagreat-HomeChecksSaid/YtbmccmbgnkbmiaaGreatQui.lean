/- Drawn regions, quiet operations first; those that read no memory may speak of any own object. No condition. -/
import Derived.Test.YtbmccmbgnkbmiaaGreatAbsd
set_option linter.unusedVariables false
set_option linter.unusedSimpArgs false
namespace Go.Abs
open Go Go.RowKit
def fopE (B:Tabs) (g:Bool) (s:St) (op:Op) (K:AV→Prop):Prop :=
 match op with
 | .nilCheck x=>aget g s x fun xv=>match xv with
  | .ptr cs=>K (.ptr cs)
  | .obj id off=>K (.obj id off)
  | .rp id esz i off=>K (.rp id esz i off)
  | _=>False
 | .fieldAddr t x f=>aget g s x fun xv=>fieldv B.T t f xv K
 | .indexAddr t x i=>aget g s x fun xv=>aget g s i fun iv=>indexv B.T g t xv iv K
 | _=>False
theorem fopE_sound (B:Tabs) {g:Bool} {s:St} {op:Op} {K:AV→Prop} (h:fopE B g s op K) :
  ∃ y,K y∧∀ F τ w n (a:Act),g=true→EnvR F τ w n s.env a.tmps→∃ v,Rep F w τ y v∧∀ (o:Oper),o.op=op→∀ w',(execOp a.eval o).run B.P w'=.ok (.value v) w':=by
 have hT:=B.hT
 cases op
 case nilCheck x =>
  simp only [fopE] at h
  obtain ⟨xv,h,hx⟩:=aget_sound h
  split at h
  ·refine ⟨_,h,fun F τ w n a hg hr=>?_⟩
   have h1:=hx F τ w n a hg hr
   generalize hxe:a.eval x=xval at h1
   refine ⟨xval,h1,fun o ho w'=>?_⟩
   cases h1
   simp [execOp,ho,hxe]
  ·refine ⟨_,h,fun F τ w n a hg hr=>?_⟩
   have h1:=hx F τ w n a hg hr
   generalize hxe:a.eval x=xval at h1
   refine ⟨xval,h1,fun o ho w'=>?_⟩
   cases h1
   simp [execOp,ho,hxe]
  ·refine ⟨_,h,fun F τ w n a hg hr=>?_⟩
   have h1:=hx F τ w n a hg hr
   generalize hxe:a.eval x=xval at h1
   refine ⟨xval,h1,fun o ho w'=>?_⟩
   cases h1
   simp [execOp,ho,hxe]
  ·exact h.elim
 case fieldAddr t x f =>
  simp only [fopE] at h
  obtain ⟨xv,h,hx⟩:=aget_sound h
  obtain ⟨y,hy,hs⟩:=fieldv_sound hT h
  refine ⟨y,hy,fun F τ w n a hg hr=>?_⟩
  obtain ⟨v,h1,h2⟩:=hs F τ w _ (hx F τ w n a hg hr)
  exact ⟨v,h1,fun o ho w'=>by simp only [execOp,ho]; exact exec_value (h2 w')⟩
 case indexAddr t x i =>
  simp only [fopE] at h
  obtain ⟨xv,h,hx⟩:=aget_sound h
  obtain ⟨iv,h,hi⟩:=aget_sound h
  obtain ⟨y,hy,hs⟩:=indexv_sound hT h
  refine ⟨y,hy,fun F τ w n a hg hr=>?_⟩
  obtain ⟨v,h1,h2⟩:=hs F τ w _ _ hg (hx F τ w n a hg hr) (hi F τ w n a hg hr)
  exact ⟨v,h1,fun o ho w'=>by simp only [execOp,ho]; exact exec_value (h2 w')⟩
 all_goals (simp only [fopE] at h)
def qopE (B:Tabs) (n:Nat) (g:Bool) (wrap:AV→AV) (p:List Nat) (s:St) (op:Op) (d:Option Nat) (K:St→Prop):Prop :=
 match d with
 | some d=>(match op with
  | .move x=>chk (Nat.blt d n) (aget g s x fun y=>K (s.put d (wrap y)))
  | .assign x=>chk (Nat.blt d n) (aget g s x fun y=>K (s.put d (wrap y)))
  | .nilCheck x=>chk (Nat.blt d n) (fopE B g s (.nilCheck x) fun y=>K (s.put d (wrap y)))
  | .fieldAddr t x f=>chk (Nat.blt d n) (fopE B g s (.fieldAddr t x f) fun y=>K (s.put d (wrap y)))
  | .indexAddr t x i=>chk (Nat.blt d n) (fopE B g s (.indexAddr t x i) fun y=>K (s.put d (wrap y)))
  | op=>chk (Nat.blt d n) (qop B g (s.only p) op fun y=>K (s.put d (wrap y))))
 | none=>False
theorem qopE_sound (B:Tabs) {cx:Cx} (hP:cx.P=B.P) {s:St} {o:Oper} {K:St→Prop} {g:Bool} {wrap:AV→AV} {p:List Nat} (h:qopE B cx.n g wrap p s o.op o.dst K) (hwrap:g=true→∀ F w τ y v,Rep F w τ y v→Rep F w τ (wrap y) v)
  (hfalse:g=false→∀ F w τ y,Rep F w τ (wrap y) undef) {τ F a w} (hr:RelA cx τ F s a w) :
  ∃ s' v,K s'∧RelA cx τ F s' (a.put o.dst v) w∧(g=true→∀ w',(∀ b,stay F τ p b→w'.heap[b]? = w.heap[b]?)→(execOp a.eval o).run B.P w'=.ok (.value v) w')∧(g=false→v=undef):=by
 unfold qopE at h
 split at h
 ·rename_i d hdst
  have reg:∀ x,(∀ w',(execOp a.eval o).run B.P w'=.ok (.value (a.eval x)) w')→chk (Nat.blt d cx.n) (aget g s x fun y=>K (s.put d (wrap y))) →
    ∃ s' v,K s'∧RelA cx τ F s' (a.put o.dst v) w∧(g=true→∀ w',(∀ b,stay F τ p b→w'.heap[b]? = w.heap[b]?)→(execOp a.eval o).run B.P w'=.ok (.value v) w')∧(g=false→v=undef):=by
   intro x hx h
   obtain ⟨hd,h⟩:=chk_spec h
   have hd:=blt_lt hd
   obtain ⟨y,hy,hs⟩:=aget_sound h
   cases hg:g with
   | true=>exact ⟨_,a.eval x,hy,by rw [hdst]; exact hr.put d _ _ (hwrap hg _ _ _ _ _ (hs F τ w cx.n a hg hr.env)) hd,fun _ w' _=>hx w',fun h=>by cases h⟩
   | false=>exact ⟨_,undef,hy,by rw [hdst]; exact hr.put d _ undef (hfalse hg _ _ _ _) hd,fun h=>by (cases h),fun _=>rfl⟩
  have free:∀ op,o.op=op→chk (Nat.blt d cx.n) (fopE B g s op fun y=>K (s.put d (wrap y))) →
    ∃ s' v,K s'∧RelA cx τ F s' (a.put o.dst v) w∧(g=true→∀ w',(∀ b,stay F τ p b→w'.heap[b]? = w.heap[b]?)→(execOp a.eval o).run B.P w'=.ok (.value v) w')∧(g=false→v=undef):=by
   intro op hop h
   obtain ⟨hd,h⟩:=chk_spec h
   have hd:=blt_lt hd
   obtain ⟨y,hy,hs⟩:=fopE_sound B h
   cases hg:g with
   | true =>
    obtain ⟨v,h1,h2⟩:=hs F τ w cx.n a hg hr.env
    exact ⟨_,v,hy,by rw [hdst]; exact hr.put d _ v (hwrap hg _ _ _ _ _ h1) hd,fun _ w' _=>h2 o hop w',fun h=>by cases h⟩
   | false=>exact ⟨_,undef,hy,by rw [hdst]; exact hr.put d _ undef (hfalse hg _ _ _ _) hd,fun h=>by (cases h),fun _=>rfl⟩
  split at h
  ·rename_i x hop
   exact reg x (fun w'=>by simp [execOp,hop]) h
  ·rename_i x hop
   exact reg x (fun w'=>by simp [execOp,hop]) h
  ·rename_i x hop
   exact free _ hop h
  ·rename_i t x f hop
   exact free _ hop h
  ·rename_i t x i hop
   exact free _ hop h
  ·obtain ⟨hd,h⟩:=chk_spec h
   have hd:=blt_lt hd
   obtain ⟨y,hy,hs⟩:=qop_sound B h
   cases hg:g with
   | true =>
    have hpart:=hr.part (fun k=>p.elem k) cx rfl hr.wr.keeps hr.wr.fsub hr.wr.fsup (fun nm v b _ hv hb=>(hr.wr.tlt nm v b hv hb).1) rfl
    obtain ⟨v,h1,h2⟩:=hs cx _ F w a hg hpart
    have h1':Rep F w τ y v:=h1.mono (fun _ h=>h) (fun _ _=>rfl) (fun id u hu=>(part_some.1 hu).2)
    refine ⟨_,v,hy,by rw [hdst]; exact hr.put d _ v (hwrap hg _ _ _ _ _ h1') hd,fun _ w' hw'=>h2 o rfl w' fun b hb=>hw' b ?_,fun h=>by cases h⟩
    rcases hb with hb|⟨nm,u,hu,hb⟩
    ·exact .inl hb
    ·exact .inr ⟨nm,u,(part_some.1 hu).1,(part_some.1 hu).2,hb⟩
   | false=>exact ⟨_,undef,hy,by rw [hdst]; exact hr.put d _ undef (hfalse hg _ _ _ _) hd,fun h=>by (cases h),fun _=>rfl⟩
 ·exact h.elim
def qE (B:Tabs) (n:Nat) (ops:List Oper) (p:List Nat) (K:St→Prop):Qt→St→Prop
 | .fin,s=>K s
 | .no,s=>True
 | .q i t,s=>(match ops[i]? with
  | some o=>(match o.guard with
   | none=>qopE B n true (fun y=>y) p s o.op o.dst fun s'=>qE B n ops p K t s'
   | some (k,b)=>guardB ops s k b fun g=>qopE B n g (fun y=>.cond g y) p s o.op o.dst fun s'=>qE B n ops p K t s')
  | none=>False)
 | .c i full t r,s=>(match ops[i]? with
  | some o=>(match full with
   | true=>aops B n ops [o] s fun s'=>forceS s' fun s'=>qE B n ops p K t s'
   | false=>forceS (s.hide p) fun s1=>aops B n ops [o] s1 fun s'=>chk (p.all fun k=>(look s'.heap k).isNone) (forceS (s'.back s p o.dst) fun s'=>qE B n ops p K t s'))
  | none=>False)∧qE B n ops p K r s
 | .z id t,s=>∃ o,subHO (look s.heap id) o∧domSame (look s.heap id) o∧o.pureP∧forceS (s.frz id o) fun s'=>qE B n ops p K t s'
theorem qE_sound (B:Tabs) {cx:Cx} (hP:cx.P=B.P) {ops:List Oper} {ql p:List Nat} {K:St→Prop} {Q:Exit→Act→World→Prop} (hQ:∀ s' a' w',K s'→Rel cx s' a' w'→Q .normal a' w') (hQp:∀ c a w,¬ Q (.panic c) a w)
  (hsel:Region.noSelect ops.toArray=true) :
  ∀ (t:Qt) {f:Nat} {listed:Array Bool} {rem:List Nat} {e:Bool},t.okB ops.toArray ql f listed rem e=true→Closed .any ops.toArray listed→(∀ k∈rem,k∈Region.ready .any ops.toArray listed)→∀ {s:St},qE B cx.n ops p K t s→∀ {τ F} {a:Act} {w:World},RelA cx τ F s a w →
   ∀ (L:List Past),(∀ x∈L,x.i∈ql∧listed.getD x.i false=true∧∀ b,x.R b→stay F τ p b)→JL ops.toArray ql L listed w →
   (e=true→rem=Region.ready .any ops.toArray listed→wpAnyJ cx.P .any ops.toArray Q (JL ops.toArray ql L) f listed a w) ∧
   (∀ i f',i∈rem→f=f'+1→(e=true→rem=Region.ready .any ops.toArray listed)→wpOp cx.P ops.toArray Q i (fun a' w'=>JL ops.toArray ql L (listed.setIfInBounds i true) w'∧wpAnyJ cx.P .any ops.toArray Q (JL ops.toArray ql L) f' (listed.setIfInBounds i true) a' w') a w)
 | .fin,f,listed,rem,e,hok,hcl,hsub,s,h,τ,F,a,w,hr,L,hL,hJ=>by
  simp only [Qt.okB,Bool.and_eq_true,List.isEmpty_iff] at hok
  obtain ⟨_,rfl⟩:=hok
  refine ⟨fun _ hrem=>?_,fun i f' hi=>absurd hi (by simp)⟩
  cases f with
  | zero=>exact ⟨hrem.symm,hQ _ _ _ h ⟨τ,F,hr⟩⟩
  | succ f=>exact ⟨fun _=>hQ _ _ _ h ⟨τ,F,hr⟩,fun i hi=>absurd hi (by rw [← hrem]; simp)⟩
 | .no,f,listed,rem,e,hok,hcl,hsub,s,h,τ,F,a,w,hr,L,hL,hJ=>by
  simp only [Qt.okB,Bool.and_eq_true,List.isEmpty_iff,Bool.not_eq_true'] at hok
  obtain ⟨he,rfl⟩:=hok
  exact ⟨fun h1=>absurd h1 (by rw [he]; simp),fun i f' hi=>absurd hi (by simp)⟩
 | .q i t,0,listed,rem,e,hok,hcl,hsub,s,h,τ,F,a,w,hr,L,hL,hJ=>by simp [Qt.okB] at hok
 | .q i t,f+1,listed,rem,e,hok,hcl,hsub,s,h,τ,F,a,w,hr,L,hL,hJ=>by
  simp only [Qt.okB,Bool.and_eq_true] at hok
  obtain ⟨⟨⟨⟨he,hrem⟩,hql⟩,hfree⟩,hok⟩:=hok
  have hqi:(fun k=>ql.elem k) i=true:=hql
  have key:rem=Region.ready .any ops.toArray listed→wpAnyJ cx.P .any ops.toArray Q (JL ops.toArray ql L) (f+1) listed a w:=by
   intro hre
   have hir:i∈Region.ready .any ops.toArray listed:=by rw [← hre]; rw [List.elem_eq_mem,decide_eq_true_iff] at hrem; exact hrem
   unfold qE at h
   cases ho:ops[i]? with
   | none=>rw [ho] at h; exact h.elim
   | some o =>
    rw [ho] at h
    simp only at h
    have ho':ops.toArray[i]? = some o:=by simpa using ho
    have main:∃ s' v,qE B cx.n ops p K t s'∧RelA cx τ F s' (a.put o.dst v) w∧YieldsC cx.P ops.toArray (fun w'=>∀ b,stay F τ p b→w'.heap[b]? = w.heap[b]?) o v a:=by
     cases hg:o.guard with
     | none =>
      rw [hg] at h
      obtain ⟨s',v,h1,h2,h3,_⟩:=qopE_sound B hP h (fun _ _ _ _ _ _ h=>h) (fun h=>by cases h) hr
      exact ⟨s',v,h1,h2,.inl ⟨by unfold Region.wanted; rw [hg],by rw [hP]; exact h3 rfl⟩⟩
     | some kb =>
      obtain ⟨k,b⟩:=kb
      rw [hg] at h
      obtain ⟨g,hG,hw⟩:=wanted_guard hg h hr.env
      obtain ⟨s',v,h1,h2,h3,h4⟩:=qopE_sound B hP hG (fun hg _ _ _ _ _ h=>by subst hg; exact .condT _ _ _ h) (fun hg _ _ _ _=>by subst hg; exact .condF _ _) hr
      refine ⟨s',v,h1,h2,?_⟩
      cases g with
      | true=>exact .inl ⟨hw,by rw [hP]; exact h3 rfl⟩
      | false=>exact .inr ⟨hw,h4 rfl⟩
    obtain ⟨s',v,h1,h2,hy⟩:=main
    let x:Past:=⟨i,stay F τ p,w⟩
    have hin:(listed.setIfInBounds i true).getD i false=true:=by
     have hun:=(mem_ready.1 hir).1
     have hlt:i<listed.size:=by
      rcases Nat.lt_or_ge i listed.size with h'|h'
      ·exact h'
      ·simp [Array.getElem?_eq_none h'] at hun
     simp [hlt]
    have IH:=(qE_sound B hP hQ hQp hsel t hok (closed_set hcl hir) (fun k hk=>hk) h1 h2 (x::L) (fun y hy=>by
     rcases List.mem_cons.1 hy with rfl|hy
     ·exact ⟨by rw [List.elem_eq_mem,decide_eq_true_iff] at hql; exact hql,hin,fun b hb=>hb⟩
     ·exact ⟨(hL y hy).1,getD_set_true (hL y hy).2.1,(hL y hy).2.2⟩) (fun y hy hnd b hb=>by
     rcases List.mem_cons.1 hy with rfl|hy
     ·rfl
     ·exact hJ y hy ((noDep_set hqi).1 hnd) b hb)).1 rfl rfl
    refine wpAnyJ_first (qs:=fun k=>ql.elem k) (C:=fun w'=>∀ b,stay F τ p b→w'.heap[b]? = w.heap[b]?) ho' hqi (Region.noSelect_spec hsel) (fun c a w h=>absurd h (hQp _ _ _)) (fun l w' h y hy hnd=>h y hy ((noDep_set hqi).2 hnd)) (fun l w' h y hy hnd=>h y hy ((noDep_set hqi).1 hnd)) f listed a w hcl (Region.free_spec ho' hfree) hir hy (fun b _=>rfl) hJ ?_
    exact wpAnyJ_mono (fun l w' h=>⟨fun hnd=>h x (List.mem_cons_self ..) hnd,fun y hy=>h y (List.mem_cons_of_mem _ hy)⟩) _ _ _ _ IH
  refine ⟨fun _=>key,fun i' f' hi' hf hre=>?_⟩
  obtain rfl:f=f':=by omega
  exact (key (hre he)).2 i' (by rw [← hre he]; exact hi')
 | .z id t,f,listed,rem,e,hok,hcl,hsub,s,h,τ,F,a,w,hr,L,hL,hJ=>by
  unfold qE at h
  obtain ⟨o,h1,h2,h3,h4⟩:=h
  have h4:=forceS_spec h4
  obtain ⟨τ',F',hr',hF,ht⟩:=hr.freezeW h1 h2 h3
  refine qE_sound B hP hQ hQp hsel t (by unfold Qt.okB at hok; exact hok) hcl hsub h4 hr' L (fun x hx=>⟨(hL x hx).1,(hL x hx).2.1,fun b hb=>?_⟩) hJ
  rcases (hL x hx).2.2 b hb with q|⟨nm,u,q1,q2,q3⟩
  ·exact .inl (hF b q)
  ·rcases ht nm u q2 with q|q
   ·exact .inr ⟨nm,u,q1,q,q3⟩
   ·exact .inl (q b q3)
 | .c i full t r,0,listed,rem,e,hok,hcl,hsub,s,h,τ,F,a,w,hr,L,hL,hJ=>by simp [Qt.okB] at hok
 | .c i full t r,f+1,listed,[],e,hok,hcl,hsub,s,h,τ,F,a,w,hr,L,hL,hJ=>by simp [Qt.okB] at hok
 | .c i full t r,f+1,listed,j::rem,e,hok,hcl,hsub,s,h,τ,F,a,w,hr,L,hL,hJ=>by
  simp only [Qt.okB,Bool.and_eq_true,Bool.not_eq_true'] at hok
  obtain ⟨⟨⟨⟨hij,hnq⟩,hfull⟩,hok1⟩,hok2⟩:=hok
  have hij:=Nat.eq_of_beq_eq_true hij
  subst hij
  unfold qE at h
  obtain ⟨h1,h2⟩:=h
  have hir:=hsub i (List.mem_cons_self ..)
  have hin:(listed.setIfInBounds i true).getD i false=true:=by
   have hun:=(mem_ready.1 hir).1
   have hlt:i<listed.size:=by
    rcases Nat.lt_or_ge i listed.size with h'|h'
    ·exact h'
    ·simp [Array.getElem?_eq_none h'] at hun
   simp [hlt]
  have hmono:∀ (x:Nat) (l:Array Bool) (k:Nat),noDep .any ops.toArray (fun k=>ql.elem k) x (l.setIfInBounds k true)→noDep .any ops.toArray (fun k=>ql.elem k) x l:=fun x l k h m hm hl=>h m hm (getD_set_true hl)
  have head:wpOp cx.P ops.toArray Q i (fun a' w'=>JL ops.toArray ql L (listed.setIfInBounds i true) w'∧wpAnyJ cx.P .any ops.toArray Q (JL ops.toArray ql L) f (listed.setIfInBounds i true) a' w') a w:=by
   cases ho:ops[i]? with
   | none=>rw [ho] at h1; exact h1.elim
   | some o =>
    rw [ho] at h1
    simp only at h1
    have ho':ops.toArray[i]? = some o:=by simpa using ho
    cases full with
    | true =>
     simp only at h1
     refine one_sound B hP ho h1 ⟨τ,F,hr⟩ fun s' a' w' hK hr'=>?_
     obtain ⟨τ',F',hr'⟩:=hr'
     have hK:=forceS_spec hK
     have IH:=(qE_sound B hP hQ hQp hsel t hok1 (closed_set hcl hir) (fun k hk=>hk) hK hr' [] (fun x hx=>by cases hx) (fun x hx=>by cases hx)).1 rfl rfl
     let D:Array Bool→Prop:=fun l=>∀ x∈L,¬ noDep .any ops.toArray (fun k=>ql.elem k) x.i l
     have hD:D (listed.setIfInBounds i true):=fun x hx hnd=>by
      have h3:=hnd i hnq hin
      have h4:=List.all_eq_true.1 (by simpa using hfull:ql.all (fun l=>!listed.getD l false||depB .any ops.toArray ops.toArray.size i l)=true) x.i (hL x hx).1
      rw [(hL x hx).2.1] at h4
      simp only [Bool.not_true,Bool.false_or] at h4
      rw [h3] at h4; cases h4
     exact ⟨fun x hx hnd=>absurd hnd (hD x hx),wpAnyJ_dead (D:=D) (fun l k hl x hx hnd=>hl x hx (hmono _ _ _ hnd)) (fun l w hl x hx hnd=>absurd hnd (hl x hx)) _ _ _ _ hD IH⟩
    | false =>
     simp only at h1
     have h1:=forceS_spec h1
     have hr0:=hide_rel hr p
     have W:=one_sound B (cx:=cxP cx τ F p w) hP ho h1 ⟨_,_,hr0⟩ (Q:=Q) (next:=fun a' w'=>∃ s',chk (p.all fun k=>(look s'.heap k).isNone) (forceS (s'.back s p o.dst) fun s'=>qE B cx.n ops p K t s')∧Rel (cxP cx τ F p w) s' a' w') fun s' a' w' hK hr'=>⟨s',hK,hr'⟩
     refine wpOp_mono (fun a' w' ⟨hsame,s',hK,hr'⟩=>?_) (wpOp_same ho' W)
     obtain ⟨τ',F',hr'⟩:=hr'
     obtain ⟨hno,hqt⟩:=chk_spec hK
     have hqt:=forceS_spec hqt
     obtain ⟨τ2,F2,hr2,hst2⟩:=back_rel hr hr' hno hsame
     have hJ':JL ops.toArray ql L (listed.setIfInBounds i true) w':=fun x hx hnd b hb=>by
      rw [stays hr hr'.wr.keeps b ((hL x hx).2.2 b hb)]
      exact hJ x hx (hmono _ _ _ hnd) b hb
     exact ⟨hJ',(qE_sound B hP hQ hQp hsel t hok1 (closed_set hcl hir) (fun k hk=>hk) hqt hr2 L (fun x hx=>⟨(hL x hx).1,getD_set_true (hL x hx).2.1,fun b hb=>hst2 b ((hL x hx).2.2 b hb)⟩) hJ').1 rfl rfl⟩
  have key:∀ i' f',i'∈i::rem→f+1=f'+1→wpOp cx.P ops.toArray Q i' (fun a' w'=>JL ops.toArray ql L (listed.setIfInBounds i' true) w'∧wpAnyJ cx.P .any ops.toArray Q (JL ops.toArray ql L) f' (listed.setIfInBounds i' true) a' w') a w:=by
   intro i' f' hi' hf
   obtain rfl:f=f':=by omega
   rcases List.mem_cons.1 hi' with rfl|hi'
   ·exact head
   ·exact (qE_sound B hP hQ hQp hsel r hok2 hcl (fun k hk=>hsub k (List.mem_cons_of_mem _ hk)) h2 hr L hL hJ).2 i' f hi' rfl (fun h=>by cases h)
  refine ⟨fun _ hrem=>⟨fun h0=>absurd h0 (by rw [← hrem]; simp),fun i' hi'=>key i' f (by rw [hrem]; exact hi') rfl⟩,fun i' f' hi' hf _=>key i' f' hi' hf⟩
theorem AWp.quietP {B:Tabs} {n:Nat} {s:St} {Q:Exit→St→Prop} {id:Nat} {l:List Oper} (t:Qt) (ql p:List Nat) (hm:B.P.follows .mixedOrders=true)
  (hB:(Region.noSelect l.toArray&&t.okB l.toArray ql l.toArray.size (Array.replicate l.toArray.size false) (Region.ready .any l.toArray (Array.replicate l.toArray.size false)) true)=true) (h:qE B n l p (fun s'=>Unit→Q .normal s') t s):AWp B n (.region id l.toArray true) s Q:=by
 unfold AWp
 intro cx hP hn a w hr
 subst hn
 obtain ⟨τ,F,hr⟩:=hr
 rw [Bool.and_eq_true] at hB
 have hb0:Below w.heap.size w { w with drawn:=w.drawn+1 }:=⟨rfl,rfl,rfl,Nat.le_refl _,fun _ _=>rfl⟩
 have hr1:=hr.later hb0
 let Q':Exit→Act→World→Prop:=fun e a' w'=>e=.normal∧∃ s',(Unit→Q .normal s')∧Rel cx s' a' w'
 have key:=(qE_sound B hP (Q:=Q') (fun s' a' w' hK hr'=>⟨rfl,s',hK,hr'⟩) (fun c a w h=>by cases h.1) hB.1 t hB.2 (fun j oj _ hl=>by rw [getD_repl] at hl; cases hl) (fun k hk=>hk) h hr1 [] (fun x hx=>by cases hx) (fun x hx=>by cases hx)).1 rfl rfl
 have:=wp_region_any (id:=id) (P:=cx.P) (by rw [hP]; exact hm) (wpAnyJ_any _ _ _ _ key)
 rw [hP] at this
 refine wp_mono this fun e a' w' ⟨he,s',h1,h2⟩=>?_
 subst he
 exact ⟨s',h1 (),h2⟩
end Go.Abs

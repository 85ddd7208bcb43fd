/- Drawn regions with several writers; code that leaves marks; a range over a function that hands over a row from its end on. Condition: a row that a machine holds. -/
import Derived.Test.YtbmccmbgnkbmiaaGreatData
import Derived.RangeFuncNested
import Derived.RangeFuncLeaves
import Derived.Test.YtbmccmbgnkbmiaaGreatFlw
import Derived.RangeFuncBox
import Derived.WalkKit
import Derived.Shelf.Abstract
import Derived.OwnWalkIn
import Derived.TacticsInMore
import Derived.LoopNIn
import Derived.LoopIn
set_option linter.unusedVariables false
set_option linter.unusedSimpArgs false
namespace Go.Abs
open Go Go.RowKit
def flatB (a b:Nm):Bool:=match a.ix,b.ix with
 | [],[]=>Nat.beq a.id b.id
 | _,_=>false
theorem flatB_spec {a b:Nm} (h:flatB a b=true):a=b:=by
 obtain ⟨a,ax⟩:=a
 obtain ⟨b,bx⟩:=b
 unfold flatB at h
 split at h
 ·rename_i e1 e2
  simp only at e1 e2 h
  have:=Nat.eq_of_beq_eq_true h
  subst this; subst e1; subst e2; rfl
 ·cases h
def leadB (e:List (Nat×AV)) (t:Nat) (nm:Nm):Option Nat:=match look e t with
 | some (.obj a off)=>(match flatB a nm with
  | true=>some off
  | false=>none)
 | _=>none
theorem leadB_spec {e:List (Nat×AV)} {t:Nat} {nm:Nm} {off:Nat} (h:leadB e t nm=some off):look e t=some (.obj nm off):=by
 unfold leadB at h
 split at h
 ·rename_i a off' hl
  split at h
  ·rename_i hf
   injection h with h; subst h
   rw [hl,flatB_spec hf]
  ·cases h
 ·cases h
def witB (e e':List (Nat×AV)) (d:Option Nat) (nm:Nm):List (Nat×AV)→Bool
 | []=>false
 | (t,_)::r=>(match leadB e t nm,leadB e' t nm,(match d with|some d=>Nat.beq t d|none=>false) with
  | some o,some o',false=>Nat.beq o o'
  | _,_,_=>false)||witB e e' d nm r
theorem witB_spec {e e':List (Nat×AV)} {d:Option Nat} {nm:Nm}:∀ {l:List (Nat×AV)},witB e e' d nm l=true→∃ t off,look e t=some (.obj nm off)∧look e' t=some (.obj nm off)∧d≠some t
 | [],h=>by cases h
 | (t,x)::r,h=>by
  simp only [witB,Bool.or_eq_true] at h
  rcases h with h|h
  ·split at h
   ·rename_i o o' h1 h2 h3
    have e:=Nat.eq_of_beq_eq_true h
    subst e
    refine ⟨t,o,leadB_spec h1,leadB_spec h2,fun e=>?_⟩
    subst e
    simp only [Nat.beq_refl] at h3; cases h3
   ·cases h
  ·exact witB_spec h
def oldB (h:List (Nat×HO)) (nm:Nm):Bool:=match nm.ix with
 | []=>Nat.ble 1000 nm.id&&(match look h nm.id with
  | some o=>o.flat
  | none=>false)
 | _=>false
theorem oldB_spec {h:List (Nat×HO)} {nm:Nm} (e:oldB h nm=true):1000≤nm.id∧∃ o,Has h nm o:=by
 obtain ⟨i,ix⟩:=nm
 unfold oldB at e
 split at e
 ·rename_i hx
  simp only at hx
  subst hx
  rw [Bool.and_eq_true] at e
  obtain ⟨e1,e2⟩:=e
  refine ⟨Nat.le_of_ble_eq_true e1,?_⟩
  split at e2
  ·rename_i o ho
   exact ⟨o,Has.of_look ho e2⟩
  ·cases e2
 ·cases e
def keepK (s s':St) (p:List Nat) (d:Option Nat) (nm:Nm):Bool:=p.elem nm.id||(oldB s'.heap nm||witB s.env s'.env d nm s.env)
def dedE:List Nat→List (Nat×AV)→List (Nat×AV)
 | _,[]=>[]
 | l,(t,x)::r=>match l.elem t with
  | true=>dedE l r
  | false=>(t,x)::dedE (t::l) r
theorem dedE_look:∀ (e:List (Nat×AV)) (l:List Nat) {t:Nat} {x:AV},look (dedE l e) t=some x→look e t=some x∧l.elem t=false
 | [],l,t,x,h=>by cases h
 | (k,y)::r,l,t,x,h=>by
  unfold dedE at h
  split at h
  ·rename_i hk
   obtain ⟨h1,h2⟩:=dedE_look r l h
   refine ⟨?_,h2⟩
   rw [look_cons,if_neg (fun e=>by subst e; rw [h2] at hk; cases hk)]; exact h1
  ·rename_i hk
   rw [look_cons] at h ⊢
   split at h
   ·rename_i e; subst e; rw [if_pos rfl]; exact ⟨h,hk⟩
   ·rename_i e
    obtain ⟨h1,h2⟩:=dedE_look r _ h
    rw [if_neg e]
    refine ⟨h1,?_⟩
    rw [List.elem_eq_mem] at h2 ⊢
    rw [decide_eq_false_iff_not] at h2 ⊢
    exact fun hm=>h2 (List.mem_cons_of_mem _ hm)
def St.bck (s' s:St) (p:List Nat) (d:Option Nat):St:=match p with
 | []=>{ s' with env:=dedE [] s'.env }
 | p=>{ env:=dedE [] (protE p d s.env s.env++s'.env),heap:=s'.heap++(s.heap.filter fun x=>p.elem x.1).map fun x=>(x.1,x.2.keep (keepK s s' p d)) }
theorem RelA.ded {cx τ F s a w} (h:RelA cx τ F s a w):RelA cx τ F { s with env:=dedE [] s.env } a w :=
 ⟨⟨h.wr.keeps,h.wr.fz,h.wr.fne,h.wr.fsub,h.wr.fsup,h.wr.tlt,h.wr.inj,h.wr.obj,h.wr.dom,h.wr.old,h.wr.cxn⟩,h.size,h.defers,fun t x ht=>h.env t x (dedE_look _ _ ht).1⟩
theorem back_rel2 {cx τ F s a w} (h:RelA cx τ F s a w) {p:List Nat} {s':St} {a':Act} {w':World} {τ':Nm→Option Value} {F':Nat→Prop} (h':RelA (cxP cx τ F p w) τ' F' s' a' w') (hno:(p.all fun k=>(look s'.heap k).isNone)=true) {d:Option Nat} (hsame:∀ t,d≠some t→a'.tmps.getD t undef=a.tmps.getD t undef) :
  ∃ τ2 F2,RelA cx τ2 F2 (s'.bck s p d) a' w'∧(∀ b,F b→F2 b)∧(∀ nm u,p.elem nm.id=true→τ nm=some u→τ2 nm=some u):=by
 have hk:=h'.wr.keeps
 have hst:=stays h hk
 have hX:∀ b,(cxP cx τ F p w).X b→cx.w.heap.size≤b∨cx.X b:=fun b ⟨nm,u,_,hu,hb⟩=>(h.wr.tlt nm u b hu hb).1
 have keepsC:Keeps cx.X cx.w w':=by
  refine ⟨hk.os.trans h.wr.keeps.os,hk.tape.trans h.wr.keeps.tape,hk.output.trans h.wr.keeps.output,Nat.le_trans h.wr.keeps.size hk.size,fun k hlt hx=>?_⟩
  rw [hk.block k (Nat.lt_of_lt_of_le hlt h.wr.keeps.size) fun hx'=>(hX k hx').elim (fun h=>by omega) hx]
  exact h.wr.keeps.block k hlt hx
 have fsubC:∀ k,F' k→cx.F k∨cx.w.heap.size≤k∨cx.X k:=fun k hF=>by
  rcases h'.wr.fsub k hF with q|q|q
  ·exact h.wr.fsub k q
  ·exact .inr (.inl (Nat.le_trans h.wr.keeps.size q))
  ·exact .inr (hX k q)
 have tltC:∀ nm v b,τ' nm=some v→hblk v=some b→(cx.w.heap.size≤b∨cx.X b)∧b<w'.heap.size:=fun nm v b hv hb=>by
  obtain ⟨q1,q2⟩:=h'.wr.tlt nm v b hv hb
  refine ⟨?_,q2⟩
  rcases q1 with q1|q1
  ·exact .inl (Nat.le_trans h.wr.keeps.size q1)
  ·exact hX b q1
 cases p with
 | nil =>
  exact ⟨τ',F',RelA.ded (s:=s') ⟨⟨keepsC,h'.wr.fz,h'.wr.fne,fsubC,fun k hF=>h'.wr.fsup k (h.wr.fsup k hF),tltC,h'.wr.inj,h'.wr.obj,h'.wr.dom,h'.wr.old,h'.wr.cxn⟩,h'.size,h'.defers,h'.env⟩,fun b hb=>h'.wr.fsup b hb,fun nm u hp _=>by cases hp⟩
 | cons i r =>
  generalize hpp:i::r=p at *
  have hback:s'.bck s p d={ env:=dedE [] (protE p d s.env s.env++s'.env),heap:=s'.heap++(s.heap.filter fun x=>p.elem x.1).map fun x=>(x.1,x.2.keep (keepK s s' p d)) }:=by rw [← hpp]; rfl
  rw [hback]
  have notin:∀ nm o,Has s'.heap nm o→p.elem nm.id=false:=fun nm o ho=>by
   cases hc:p.elem nm.id with
   | false=>rfl
   | true =>
    rw [List.elem_eq_mem,decide_eq_true_iff] at hc
    have:=List.all_eq_true.1 hno nm.id hc
    have h2:=ho.isSome
    cases hl:look s'.heap nm.id with
    | none=>rw [hl] at h2; cases h2
    | some x=>rw [hl] at this; cases this
  let τ2:Nm→Option Value:=fun nm=>if p.elem nm.id=true then τ nm else τ' nm
  have t2p:∀ nm,p.elem nm.id=true→τ2 nm=τ nm:=fun nm hp=>if_pos hp
  have t2n:∀ nm u,τ' nm=some u→τ2 nm=some u∧p.elem nm.id=false:=fun nm u hu=>by
   obtain ⟨o,ho⟩:=h'.wr.dom nm u hu
   have:=notin nm o ho
   refine ⟨?_,this⟩
   show (if p.elem nm.id=true then τ nm else τ' nm)=some u
   rw [this]; exact hu
  have tkp:∀ nm u,keepK s s' p d nm=true→τ nm=some u→τ2 nm=some u:=fun nm u hk hu=>by
   cases hp:p.elem nm.id with
   | true=>rw [t2p nm hp]; exact hu
   | false =>
    unfold keepK at hk
    rw [hp,Bool.false_or,Bool.or_eq_true] at hk
    rcases hk with hk|hk
    ·obtain ⟨h1,o,h2⟩:=oldB_spec hk
     obtain ⟨v,h3,_⟩:=h'.wr.obj nm o h2
     have h4:=h.wr.old nm u h1 hu
     have h5:cx.τ0 nm=some v:=h'.wr.old nm v h1 h3
     rw [h4] at h5
     injection h5 with h5
     subst h5
     exact (t2n nm _ h3).1
    obtain ⟨t,off,e1,e2,e3⟩:=witB_spec hk
    have q1:=(h.env t _ e1).2
    have q2:=(h'.env t _ e2).2
    rw [hsame t e3] at q2
    generalize a.tmps.getD t undef=v at q1 q2
    cases q1 with
    | obj _ _ _ b hb =>
     cases q2 with
     | obj _ _ _ _ hb' =>
      rw [hu] at hb
      injection hb with hb; subst hb
      exact (t2n nm _ hb').1
  have kinds:∀ nm u,τ2 nm=some u→(p.elem nm.id=true∧τ nm=some u)∨(p.elem nm.id=false∧τ' nm=some u):=fun nm u hu=>by
   have hu:(if p.elem nm.id=true then τ nm else τ' nm)=some u:=hu
   split at hu
   ·exact .inl ⟨by assumption,hu⟩
   ·rename_i hp; exact .inr ⟨by simpa using hp,hu⟩
  have apart:∀ nm u b nm' u',p.elem nm.id=true→τ nm=some u→hblk u=some b→τ' nm'=some u'→hblk u'=some b→False:=fun nm u b nm' u' hp hu hb hu' hb'=>by
   rcases (h'.wr.tlt nm' u' b hu' hb').1 with q|⟨nm2,u2,hp2,hu2,hb2⟩
   ·have:=(h.wr.tlt nm u b hu hb).2
    have q:w.heap.size≤b:=q
    omega
   ·have:=h.wr.inj nm nm2 u u2 b hu hu2 hb hb2
    rw [this,hp2] at hp; cases hp
  refine ⟨τ2,F',⟨⟨keepsC,h'.wr.fz,fun k nm u hF hu hb=>?_,fsubC,fun k hF=>h'.wr.fsup k (h.wr.fsup k hF),fun nm u b hu hb=>?_,fun nm nm' u u' b hu hu' hb hb'=>?_,fun nm o ho=>?_,fun nm u hu=>?_,fun nm u ho hu=>?_,h.wr.cxn⟩,h'.size,h'.defers,fun t x ht=>?_⟩,fun b hb=>h'.wr.fsup b hb,fun nm u hp hu=>by rw [t2p nm hp]; exact hu⟩
  ·rcases kinds nm u hu with ⟨hp,hu⟩|⟨_,hu⟩
   ·rcases h'.wr.fsub k hF with q|q|⟨nm2,u2,hp2,hu2,hb2⟩
    ·exact h.wr.fne k nm u q hu hb
    ·have:=(h.wr.tlt nm u k hu hb).2
     have q:w.heap.size≤k:=q
     omega
    ·have:=h.wr.inj nm nm2 u u2 k hu hu2 hb hb2
     rw [this,hp2] at hp; cases hp
   ·exact h'.wr.fne k nm u hF hu hb
  ·rcases kinds nm u hu with ⟨hp,hu⟩|⟨_,hu⟩
   ·exact ⟨(h.wr.tlt nm u b hu hb).1,Nat.lt_of_lt_of_le (h.wr.tlt nm u b hu hb).2 hk.size⟩
   ·exact tltC nm u b hu hb
  ·rcases kinds nm u hu with ⟨hp,hu⟩|⟨hp,hu⟩<;>rcases kinds nm' u' hu' with ⟨hp',hu'⟩|⟨hp',hu'⟩
   ·exact h.wr.inj nm nm' u u' b hu hu' hb hb'
   ·exact (apart nm u b nm' u' hp hu hb hu' hb').elim
   ·exact (apart nm' u' b nm u hp' hu' hb' hu hb).elim
   ·exact h'.wr.inj nm nm' u u' b hu hu' hb hb'
  ·obtain ⟨x,g1,g2,g3⟩:=ho
   rw [look_append] at g1
   cases hl:look s'.heap nm.id with
   | some y =>
    rw [hl] at g1; simp only [Option.some.injEq] at g1; subst g1
    have hh:Has s'.heap nm o:=⟨y,hl,g2,g3⟩
    obtain ⟨v,q1,q2⟩:=h'.wr.obj nm o hh
    exact ⟨v,(t2n nm v q1).1,q2.mono (fun _ h=>h) (fun _ _=>rfl) (fun id u hu=>(t2n id u hu).1) (fun _ _=>rfl)⟩
   | none =>
    rw [hl] at g1
    have hh:Has ((s.heap.filter fun x=>p.elem x.1).map fun x=>(x.1,x.2.keep (keepK s s' p d))) nm o:=⟨x,g1,g2,g3⟩
    obtain ⟨q1,y0,q2,rfl⟩:=(has_part (k:=keepK s s' p d) (p:=fun k=>p.elem k)).1 hh
    obtain ⟨v,r1,r2⟩:=h.wr.obj nm y0 q2
    refine ⟨v,by rw [t2p nm q1]; exact r1,?_⟩
    have r3:HOk F w τ2 (y0.keep (keepK s s' p d)) v:=keep_hok2 (fun id hid u hu=>tkp id u hid hu) r2
    exact r3.mono (h'.wr.fsup) (fun k hF=>hst k (.inl hF)) (fun _ _ h=>h) fun b hb=>hst b (.inr ⟨nm,v,q1,r1,hb⟩)
  ·rcases kinds nm u hu with ⟨hp,hu⟩|⟨hp,hu⟩
   ·obtain ⟨o,ho⟩:=h.wr.dom nm u hu
    obtain ⟨x,g1,g2,g3⟩:=(has_part (k:=keepK s s' p d) (p:=fun k=>p.elem k)).2 ⟨hp,o,ho,rfl⟩
    refine ⟨_,x,?_,g2,g3⟩
    rw [look_append]
    have:look s'.heap nm.id=none:=by
     cases hl:look s'.heap nm.id with
     | none=>rfl
     | some y =>
      rw [List.elem_eq_mem,decide_eq_true_iff] at hp
      have:=List.all_eq_true.1 hno nm.id hp
      rw [hl] at this; cases this
    rw [this]; exact g1
   ·obtain ⟨o,x,g1,g2,g3⟩:=h'.wr.dom nm u hu
    refine ⟨o,x,?_,g2,g3⟩
    rw [look_append,g1]
  ·rcases kinds nm u hu with ⟨hp,hu⟩|⟨hp,hu⟩
   ·exact h.wr.old nm u ho hu
   ·exact h'.wr.old nm u ho hu
  ·have ht:=(dedE_look _ _ ht).1
   rw [look_append] at ht
   cases hl:look (protE p d s.env s.env) t with
   | some y =>
    rw [hl] at ht; simp only [Option.some.injEq] at ht; subst ht
    obtain ⟨q1,q2,q3⟩:=protE_at hl
    obtain ⟨r1,r2⟩:=h.env t y q1
    refine ⟨r1,?_⟩
    rw [hsame t q2]
    have r3:Rep F w τ2 y _:=r2.refs (p:=fun nm=>inIds p nm=true) (fun nm hnm=>t2p nm hnm) (refsP_of (fun _ h=>h) q3)
    exact r3.mono h'.wr.fsup (fun k hF=>hst k (.inl hF)) (fun _ _ h=>h)
   | none =>
    rw [hl] at ht
    obtain ⟨r1,r2⟩:=h'.env t x ht
    exact ⟨r1,r2.mono (fun _ h=>h) (fun _ _=>rfl) (fun id u hu=>(t2n id u hu).1)⟩
inductive Qu
 | fin
 | no
 | q (i:Nat) (p:List Nat) (t:Qu)
 | k (i:Nat) (p:List Nat) (t r:Qu)
def pOf:List (Nat×List Nat)→Nat→List Nat
 | [],_=>[]
 | (i,p)::r,j=>match Nat.beq j i with
  | true=>p
  | false=>pOf r j
def leB (a b:List Nat):Bool:=a.all fun x=>b.elem x
def Qu.okB (ops:Array Oper) (ps:List (Nat×List Nat)):Qu→Nat→Array Bool→List Nat→Bool→Bool
 | .fin,_,_,rem,e=>e&&rem.isEmpty
 | .no,_,_,rem,e=>!e&&rem.isEmpty
 | .q i p t,f+1,listed,rem,e=>e&&rem.elem i&&(ps.map (·.1)).elem i&&leB p (pOf ps i)&&Region.free .any ops listed i&&t.okB ops ps f (listed.setIfInBounds i true) (Region.ready .any ops (listed.setIfInBounds i true)) true
 | .k i p t r,f+1,listed,j::rem,_=>Nat.beq i j&&!(ps.map (·.1)).elem i&&((ps.map (·.1)).all fun l=>!listed.getD l false||depB .any ops ops.size i l||leB (pOf ps l) p) &&
   t.okB ops ps f (listed.setIfInBounds i true) (Region.ready .any ops (listed.setIfInBounds i true)) true&&r.okB ops ps (f+1) listed rem false
 | _,_,_,_,_=>false
def qopS (B:Tabs) (n:Nat) (g:Bool) (wrap:AV→AV) (s:St) (op:Op) (d:Option Nat) (K:St→Prop):Prop :=
 match d with
 | some d=>chk (Nat.blt d n) (qop B g s op fun y=>K (s.put d (wrap y)))
 | none=>False
theorem qopS_sound (B:Tabs) {cx:Cx} (hP:cx.P=B.P) {s:St} {o:Oper} {K:St→Prop} {g:Bool} {wrap:AV→AV} {p:List Nat} (h0:qopD B cx.n g wrap p s o.op o.dst fun _=>True) (h:qopS B cx.n g wrap s o.op o.dst K) (hwrap:g=true→∀ F w τ y v,Rep F w τ y v→Rep F w τ (wrap y) v)
  (hfalse:g=false→∀ F w τ y,Rep F w τ (wrap y) undef) {τ F a w} (hr:RelA cx τ F s a w) :
  ∃ s' v,K s'∧RelA cx τ F s' (a.put o.dst v) w∧(g=true→∀ w',(∀ b,stay F τ p b→w'.heap[b]? = w.heap[b]?)→(execOp a.eval o).run B.P w'=.ok (.value v) w')∧(g=false→v=undef):=by
 obtain ⟨_,v0,_,_,h3,h4⟩:=qopD_sound B hP h0 hwrap hfalse hr
 unfold qopS at h
 split at h
 ·rename_i d hdst
  obtain ⟨hd,h⟩:=chk_spec h
  have hd:=blt_lt hd
  obtain ⟨y,hy,hs⟩:=qop_sound B h
  cases hg:g with
  | true =>
   obtain ⟨v,h1,h2⟩:=hs cx _ F w a hg hr
   have e:=(h3 hg w fun _ _=>rfl).symm.trans (h2 o rfl w fun _ _=>rfl)
   injection e with e _
   injection e with e
   subst e
   exact ⟨_,v0,hy,by rw [hdst]; exact hr.put d _ v0 (hwrap hg _ _ _ _ _ h1) hd,fun _=>h3 hg,fun h=>by cases h⟩
  | false=>exact ⟨_,undef,hy,by rw [hdst]; exact hr.put d _ undef (hfalse hg _ _ _ _) hd,fun h=>by (cases h),fun _=>rfl⟩
 ·exact h.elim
def qU (B:Tabs) (n:Nat) (ops:List Oper) (K:St→Prop):Qu→St→Prop
 | .fin,s=>K s
 | .no,s=>True
 | .q i p t,s=>(match ops[i]? with
  | some o=>(match o.guard with
   | none=>qopD B n true (fun y=>y) p s o.op o.dst (fun _=>True)∧qopS B n true (fun y=>y) s o.op o.dst fun s'=>qU B n ops K t s'
   | some (k,b)=>guardB ops s k b fun g=>qopD B n g (fun y=>.cond g y) p s o.op o.dst (fun _=>True)∧qopS B n g (fun y=>.cond g y) s o.op o.dst fun s'=>qU B n ops K t s')
  | none=>False)
 | .k i p t r,s=>(match ops[i]? with
  | some o=>forceS (s.hide p) fun s1=>aops B n ops [o] s1 fun s'=>chk (p.all fun k=>(look s'.heap k).isNone) (forceS (s'.bck s p o.dst) fun s'=>qU B n ops K t s')
  | none=>False)∧qU B n ops K r s
theorem leB_mem {a b:List Nat} (h:leB a b=true) {x:Nat} (hx:a.elem x=true):b.elem x=true:=by
 rw [List.elem_eq_mem,decide_eq_true_iff] at hx
 exact List.all_eq_true.1 h x hx
theorem stay_le {F:Nat→Prop} {τ:Nm→Option Value} {a b:List Nat} (h:leB a b=true) {k:Nat} (hk:stay F τ a k):stay F τ b k:=by
 rcases hk with hk|⟨nm,u,h1,h2,h3⟩
 ·exact .inl hk
 ·exact .inr ⟨nm,u,leB_mem h h1,h2,h3⟩
def PastOk (ops:Array Oper) (ql:List Nat) (ps:List (Nat×List Nat)) (listed:Array Bool) (F:Nat→Prop) (τ:Nm→Option Value) (x:Past):Prop :=
 x.i∈ql∧listed.getD x.i false=true∧((¬ noDep .any ops (fun k=>ql.elem k) x.i listed)∨∀ b,x.R b→stay F τ (pOf ps x.i) b)
theorem qU_sound (B:Tabs) {cx:Cx} (hP:cx.P=B.P) {ops:List Oper} {ps:List (Nat×List Nat)} {ql:List Nat} (hql:ql=ps.map (·.1)) {K:St→Prop} {Q:Exit→Act→World→Prop} (hQ:∀ s' a' w',K s'→Rel cx s' a' w'→Q .normal a' w') (hQp:∀ c a w,¬ Q (.panic c) a w)
  (hsel:Region.noSelect ops.toArray=true) :
  ∀ (t:Qu) {f:Nat} {listed:Array Bool} {rem:List Nat} {e:Bool},t.okB ops.toArray ps f listed rem e=true→Closed .any ops.toArray listed→(∀ k∈rem,k∈Region.ready .any ops.toArray listed)→∀ {s:St},qU B cx.n ops K t s→∀ {τ F} {a:Act} {w:World},RelA cx τ F s a w →
   ∀ (L:List Past),(∀ x∈L,PastOk ops.toArray ql ps listed F τ x)→JL ops.toArray ql L listed w →
   (e=true→rem=Region.ready .any ops.toArray listed→wpAnyJ cx.P .any ops.toArray Q (JL ops.toArray ql L) f listed a w) ∧
   (∀ i f',i∈rem→f=f'+1→(e=true→rem=Region.ready .any ops.toArray listed)→wpOp cx.P ops.toArray Q i (fun a' w'=>JL ops.toArray ql L (listed.setIfInBounds i true) w'∧wpAnyJ cx.P .any ops.toArray Q (JL ops.toArray ql L) f' (listed.setIfInBounds i true) a' w') a w)
 | .fin,f,listed,rem,e,hok,hcl,hsub,s,h,τ,F,a,w,hr,L,hL,hJ=>by
  simp only [Qu.okB,Bool.and_eq_true,List.isEmpty_iff] at hok
  obtain ⟨_,rfl⟩:=hok
  refine ⟨fun _ hrem=>?_,fun i f' hi=>absurd hi (by simp)⟩
  cases f with
  | zero=>exact ⟨hrem.symm,hQ _ _ _ h ⟨τ,F,hr⟩⟩
  | succ f=>exact ⟨fun _=>hQ _ _ _ h ⟨τ,F,hr⟩,fun i hi=>absurd hi (by rw [← hrem]; simp)⟩
 | .no,f,listed,rem,e,hok,hcl,hsub,s,h,τ,F,a,w,hr,L,hL,hJ=>by
  simp only [Qu.okB,Bool.and_eq_true,List.isEmpty_iff,Bool.not_eq_true'] at hok
  obtain ⟨he,rfl⟩:=hok
  exact ⟨fun h1=>absurd h1 (by rw [he]; simp),fun i f' hi=>absurd hi (by simp)⟩
 | .q i p t,0,listed,rem,e,hok,hcl,hsub,s,h,τ,F,a,w,hr,L,hL,hJ=>by simp [Qu.okB] at hok
 | .q i p t,f+1,listed,rem,e,hok,hcl,hsub,s,h,τ,F,a,w,hr,L,hL,hJ=>by
  simp only [Qu.okB,Bool.and_eq_true] at hok
  obtain ⟨⟨⟨⟨⟨he,hrem⟩,hqi0⟩,hle⟩,hfree⟩,hok⟩:=hok
  rw [← hql] at hqi0
  have hqi:(fun k=>ql.elem k) i=true:=hqi0
  have key:rem=Region.ready .any ops.toArray listed→wpAnyJ cx.P .any ops.toArray Q (JL ops.toArray ql L) (f+1) listed a w:=by
   intro hre
   have hir:i∈Region.ready .any ops.toArray listed:=by rw [← hre]; rw [List.elem_eq_mem,decide_eq_true_iff] at hrem; exact hrem
   unfold qU at h
   cases ho:ops[i]? with
   | none=>rw [ho] at h; exact h.elim
   | some o =>
    rw [ho] at h
    simp only at h
    have ho':ops.toArray[i]? = some o:=by simpa using ho
    have main:∃ s' v,qU B cx.n ops K t s'∧RelA cx τ F s' (a.put o.dst v) w∧YieldsC cx.P ops.toArray (fun w'=>∀ b,stay F τ p b→w'.heap[b]? = w.heap[b]?) o v a:=by
     cases hg:o.guard with
     | none =>
      rw [hg] at h
      obtain ⟨s',v,h1,h2,h3,_⟩:=qopS_sound B hP h.1 h.2 (fun _ _ _ _ _ _ h=>h) (fun h=>by cases h) hr
      exact ⟨s',v,h1,h2,.inl ⟨by unfold Region.wanted; rw [hg],by rw [hP]; exact h3 rfl⟩⟩
     | some kb =>
      obtain ⟨k,b⟩:=kb
      rw [hg] at h
      obtain ⟨g,hG,hw⟩:=wanted_guard hg h hr.env
      obtain ⟨s',v,h1,h2,h3,h4⟩:=qopS_sound B hP hG.1 hG.2 (fun hg _ _ _ _ _ h=>by subst hg; exact .condT _ _ _ h) (fun hg _ _ _ _=>by subst hg; exact .condF _ _) hr
      refine ⟨s',v,h1,h2,?_⟩
      cases g with
      | true=>exact .inl ⟨hw,by rw [hP]; exact h3 rfl⟩
      | false=>exact .inr ⟨hw,h4 rfl⟩
    obtain ⟨s',v,h1,h2,hy⟩:=main
    let x:Past:=⟨i,stay F τ p,w⟩
    have hin:(listed.setIfInBounds i true).getD i false=true:=by
     have hun:=(mem_ready.1 hir).1
     have hlt:i<listed.size:=by
      rcases Nat.lt_or_ge i listed.size with h'|h'
      ·exact h'
      ·simp [Array.getElem?_eq_none h'] at hun
     simp [hlt]
    have IH:=(qU_sound B hP hql hQ hQp hsel t hok (closed_set hcl hir) (fun k hk=>hk) h1 h2 (x::L) (fun y hy=>by
     rcases List.mem_cons.1 hy with rfl|hy
     ·exact ⟨by rw [List.elem_eq_mem,decide_eq_true_iff] at hqi0; exact hqi0,hin,.inr fun b hb=>stay_le hle hb⟩
     ·obtain ⟨q1,q2,q3⟩:=hL y hy
      exact ⟨q1,getD_set_true q2,q3.imp (fun q h=>q ((noDep_set hqi).1 h)) id⟩) (fun y hy hnd b hb=>by
     rcases List.mem_cons.1 hy with rfl|hy
     ·rfl
     ·exact hJ y hy ((noDep_set hqi).1 hnd) b hb)).1 rfl rfl
    refine wpAnyJ_first (qs:=fun k=>ql.elem k) (C:=fun w'=>∀ b,stay F τ p b→w'.heap[b]? = w.heap[b]?) ho' hqi (Region.noSelect_spec hsel) (fun c a w h=>absurd h (hQp _ _ _)) (fun l w' h y hy hnd=>h y hy ((noDep_set hqi).2 hnd)) (fun l w' h y hy hnd=>h y hy ((noDep_set hqi).1 hnd)) f listed a w hcl (Region.free_spec ho' hfree) hir hy (fun b _=>rfl) hJ ?_
    exact wpAnyJ_mono (fun l w' h=>⟨fun hnd=>h x (List.mem_cons_self ..) hnd,fun y hy=>h y (List.mem_cons_of_mem _ hy)⟩) _ _ _ _ IH
  refine ⟨fun _=>key,fun i' f' hi' hf hre=>?_⟩
  obtain rfl:f=f':=by omega
  exact (key (hre he)).2 i' (by rw [← hre he]; exact hi')
 | .k i p t r,0,listed,rem,e,hok,hcl,hsub,s,h,τ,F,a,w,hr,L,hL,hJ=>by simp [Qu.okB] at hok
 | .k i p t r,f+1,listed,[],e,hok,hcl,hsub,s,h,τ,F,a,w,hr,L,hL,hJ=>by simp [Qu.okB] at hok
 | .k i p t r,f+1,listed,j::rem,e,hok,hcl,hsub,s,h,τ,F,a,w,hr,L,hL,hJ=>by
  simp only [Qu.okB,Bool.and_eq_true,Bool.not_eq_true'] at hok
  obtain ⟨⟨⟨⟨hij,hnq⟩,hdep⟩,hok1⟩,hok2⟩:=hok
  rw [← hql] at hnq hdep
  have hij:=Nat.eq_of_beq_eq_true hij
  subst hij
  unfold qU at h
  obtain ⟨h1,h2⟩:=h
  have hir:=hsub i (List.mem_cons_self ..)
  have hin:(listed.setIfInBounds i true).getD i false=true:=by
   have hun:=(mem_ready.1 hir).1
   have hlt:i<listed.size:=by
    rcases Nat.lt_or_ge i listed.size with h'|h'
    ·exact h'
    ·simp [Array.getElem?_eq_none h'] at hun
   simp [hlt]
  have hmono:∀ (x:Nat) (l:Array Bool) (k:Nat),noDep .any ops.toArray (fun k=>ql.elem k) x (l.setIfInBounds k true)→noDep .any ops.toArray (fun k=>ql.elem k) x l:=fun x l k h m hm hl=>h m hm (getD_set_true hl)
  have head:wpOp cx.P ops.toArray Q i (fun a' w'=>JL ops.toArray ql L (listed.setIfInBounds i true) w'∧wpAnyJ cx.P .any ops.toArray Q (JL ops.toArray ql L) f (listed.setIfInBounds i true) a' w') a w:=by
   cases ho:ops[i]? with
   | none=>rw [ho] at h1; exact h1.elim
   | some o =>
    rw [ho] at h1
    simp only at h1
    have ho':ops.toArray[i]? = some o:=by simpa using ho
    have h1:=forceS_spec h1
    have hr0:=hide_rel hr p
    have W:=one_sound B (cx:=cxP cx τ F p w) hP ho h1 ⟨_,_,hr0⟩ (Q:=Q) (next:=fun a' w'=>∃ s',chk (p.all fun k=>(look s'.heap k).isNone) (forceS (s'.bck s p o.dst) fun s'=>qU B cx.n ops K t s')∧Rel (cxP cx τ F p w) s' a' w') fun s' a' w' hK hr'=>⟨s',hK,hr'⟩
    refine wpOp_mono (fun a' w' ⟨hsame,s',hK,hr'⟩=>?_) (wpOp_same ho' W)
    obtain ⟨τ',F',hr'⟩:=hr'
    obtain ⟨hno,hqt⟩:=chk_spec hK
    have hqt:=forceS_spec hqt
    obtain ⟨τ2,F2,hr2,hF2,ht2⟩:=back_rel2 hr hr' hno hsame
    -- a quiet operation of before: this one waits for it, or leaves alone what it rests on
    have alive:∀ x∈L,noDep .any ops.toArray (fun k=>ql.elem k) x.i (listed.setIfInBounds i true)→leB (pOf ps x.i) p=true∧∀ b,x.R b→stay F τ (pOf ps x.i) b:=fun x hx hnd=>by
     obtain ⟨q1,q2,q3⟩:=hL x hx
     have h3:=hnd i hnq hin
     have h4:=List.all_eq_true.1 hdep x.i q1
     rw [q2,h3] at h4
     simp only [Bool.not_true,Bool.false_or] at h4
     exact ⟨h4,q3.resolve_left fun q=>q (hmono _ _ _ hnd)⟩
    have hJ':JL ops.toArray ql L (listed.setIfInBounds i true) w':=fun x hx hnd b hb=>by
     obtain ⟨q1,q2⟩:=alive x hx hnd
     rw [stays hr hr'.wr.keeps b (stay_le q1 (q2 b hb))]
     exact hJ x hx (hmono _ _ _ hnd) b hb
    refine ⟨hJ',(qU_sound B hP hql hQ hQp hsel t hok1 (closed_set hcl hir) (fun k hk=>hk) hqt hr2 L (fun x hx=>?_) hJ').1 rfl rfl⟩
    obtain ⟨q1,q2,q3⟩:=hL x hx
    refine ⟨q1,getD_set_true q2,?_⟩
    by_cases hnd:noDep .any ops.toArray (fun k=>ql.elem k) x.i (listed.setIfInBounds i true)
    ·obtain ⟨g1,g2⟩:=alive x hx hnd
     refine .inr fun b hb=>?_
     rcases g2 b hb with q|⟨nm,u,e1,e2,e3⟩
     ·exact .inl (hF2 b q)
     ·exact .inr ⟨nm,u,e1,ht2 nm u (leB_mem g1 e1) e2,e3⟩
    ·exact .inl hnd
  have key:∀ i' f',i'∈i::rem→f+1=f'+1→wpOp cx.P ops.toArray Q i' (fun a' w'=>JL ops.toArray ql L (listed.setIfInBounds i' true) w'∧wpAnyJ cx.P .any ops.toArray Q (JL ops.toArray ql L) f' (listed.setIfInBounds i' true) a' w') a w:=by
   intro i' f' hi' hf
   obtain rfl:f=f':=by omega
   rcases List.mem_cons.1 hi' with rfl|hi'
   ·exact head
   ·exact (qU_sound B hP hql hQ hQp hsel r hok2 hcl (fun k hk=>hsub k (List.mem_cons_of_mem _ hk)) h2 hr L hL hJ).2 i' f hi' rfl (fun h=>by cases h)
  refine ⟨fun _ hrem=>⟨fun h0=>absurd h0 (by rw [← hrem]; simp),fun i' hi'=>key i' f (by rw [hrem]; exact hi') rfl⟩,fun i' f' hi' hf _=>key i' f' hi' hf⟩
theorem AWp.quietU {B:Tabs} {n:Nat} {s:St} {Q:Exit→St→Prop} {id:Nat} {l:List Oper} (t:Qu) (ps:List (Nat×List Nat)) (hm:B.P.follows .mixedOrders=true)
  (hB:(Region.noSelect l.toArray&&t.okB l.toArray ps l.toArray.size (Array.replicate l.toArray.size false) (Region.ready .any l.toArray (Array.replicate l.toArray.size false)) true)=true) (h:qU B n l (fun s'=>Unit→Q .normal s') t s):AWp B n (.region id l.toArray true) s Q:=by
 unfold AWp
 intro cx hP hn a w hr
 subst hn
 obtain ⟨τ,F,hr⟩:=hr
 rw [Bool.and_eq_true] at hB
 have hb0:Below w.heap.size w { w with drawn:=w.drawn+1 }:=⟨rfl,rfl,rfl,Nat.le_refl _,fun _ _=>rfl⟩
 have hr1:=hr.later hb0
 let Q':Exit→Act→World→Prop:=fun e a' w'=>e=.normal∧∃ s',(Unit→Q .normal s')∧Rel cx s' a' w'
 have key:=(qU_sound B hP rfl (Q:=Q') (fun s' a' w' hK hr'=>⟨rfl,s',hK,hr'⟩) (fun c a w h=>by cases h.1) hB.1 t hB.2 (fun j oj _ hl=>by rw [getD_repl] at hl; cases hl) (fun k hk=>hk) h hr1 [] (fun x hx=>by cases hx) (fun x hx=>by cases hx)).1 rfl rfl
 have:=wp_region_any (id:=id) (P:=cx.P) (by rw [hP]; exact hm) (wpAnyJ_any _ _ _ _ key)
 rw [hP] at this
 refine wp_mono this fun e a' w' ⟨he,s',h1,h2⟩=>?_
 subst he
 exact ⟨s',h1 (),h2⟩
def ownKind:Obj→Bool
 | .cells ..=>true
 | .map ..=>true
 | _=>false
theorem RelW.own_cells {cx τ F s w} (h:RelW cx τ F s w) {nm:Nm} {u:Value} {b:Nat} (hu:τ nm=some u) (hb:hblk u=some b):∃ o,w.heap[b]? = some o∧ownKind o=true:=by
 obtain ⟨o,ho⟩:=h.dom nm u hu
 obtain ⟨v,hv,hk⟩:=h.obj nm o ho
 rw [hu] at hv; injection hv with hv; subst hv
 cases o with
 | cells cs =>
  obtain ⟨b',c,ty,rfl,h3,_⟩:=hk
  injection hb with hb; subst hb
  exact ⟨_,h3,rfl⟩
 | row e esz n row =>
  obtain ⟨xs,h1,_⟩:=hk
  rcases h1.2 with ⟨rfl,_⟩|⟨g,cap,cur,rfl,_,q,_⟩
  ·cases hb
  ·injection hb with hb; subst hb; exact ⟨_,q,rfl⟩
 | rows e esz n row =>
  obtain ⟨xs,h1,_⟩:=hk
  rcases h1.2 with ⟨rfl,_⟩|⟨g,cap,cur,rfl,_,q,_⟩
  ·cases hb
  ·injection hb with hb; subst hb; exact ⟨_,q,rfl⟩
 | fam D f=>exact hk.elim
 | mp es =>
  obtain ⟨b',ents,clock,rfl,h3,_⟩:=hk
  injection hb with hb; subst hb
  exact ⟨_,h3,rfl⟩
def Cx.now (cx:Cx) (τ:Nm→Option Value) (F:Nat→Prop) (w:World) (ds:List Deferred):Cx:={ cx with F:=F,X:=ownB τ,w:=w,ds:=ds }
theorem RelA.now {cx τ F s a w} (h:RelA cx τ F s a w):RelA (cx.now τ F w a.defers) τ F s a w :=
 ⟨⟨Keeps.refl _ _,h.wr.fz,h.wr.fne,fun k hk=>.inl hk,fun k hk=>hk,fun nm v b hv hb=>⟨.inr ⟨nm,v,hv,hb⟩,(h.wr.tlt nm v b hv hb).2⟩,h.wr.inj,h.wr.obj,h.wr.dom,h.wr.old,h.wr.cxn⟩,h.size,rfl,h.env⟩
theorem RelW.back {cx τ F s w τ' F' s' w' ds} (h:RelW cx τ F s w) (h':RelW (cx.now τ F w ds) τ' F' s' w'):RelW cx τ' F' s' w':=by
 have hX:∀ b,ownB τ b→cx.w.heap.size≤b∨cx.X b:=fun b ⟨nm,u,hu,hb⟩=>(h.tlt nm u b hu hb).1
 have hk:Keeps (ownB τ) w w':=h'.keeps
 refine ⟨⟨hk.os.trans h.keeps.os,hk.tape.trans h.keeps.tape,hk.output.trans h.keeps.output,Nat.le_trans h.keeps.size hk.size,fun k hlt hx=>?_⟩,h'.fz,h'.fne,fun k hF=>?_,fun k hF=>h'.fsup k (h.fsup k hF),fun nm v b hv hb=>?_,h'.inj,h'.obj,h'.dom,h'.old,h'.cxn⟩
 ·rw [hk.block k (Nat.lt_of_lt_of_le hlt h.keeps.size) fun ho=>(hX k ho).elim (fun h=>by omega) hx]
  exact h.keeps.block k hlt hx
 ·rcases h'.fsub k hF with q|q|q
  ·exact h.fsub k q
  ·exact .inr (.inl (Nat.le_trans h.keeps.size q))
  ·exact .inr (hX k q)
 ·obtain ⟨q1,q2⟩:=h'.tlt nm v b hv hb
  refine ⟨?_,q2⟩
  rcases q1 with q1|q1
  ·exact .inl (Nat.le_trans h.keeps.size q1)
  ·exact hX b q1
theorem RelA.back {cx τ F s a w τ' F' s' a' w'} (h:RelA cx τ F s a w) (h':RelA (cx.now τ F w a.defers) τ' F' s' a' w'):RelA cx τ' F' s' a' w' :=
 ⟨h.wr.back h'.wr,h'.size,h'.defers.trans h.defers,h'.env⟩
theorem RelW.still {cx τ F s w τ' F' s' w' ds} (h:RelW cx τ F s w) (h':RelW (cx.now τ F w ds) τ' F' s' w') {D:Nat} {o:Obj} (ho:w.heap[D]? = some o) (hc:ownKind o=false) (hF:¬ F D):w'.heap[D]? = some o∧¬ F' D:=by
 have hlt:D<w.heap.size:=(Array.getElem?_eq_some_iff.1 ho).1
 have hno:¬ ownB τ D:=fun ⟨nm,u,hu,hb⟩=>by
  obtain ⟨o1,hcl,hk⟩:=h.own_cells hu hb
  rw [ho] at hcl; injection hcl with hcl; subst hcl; rw [hk] at hc; cases hc
 refine ⟨(h'.keeps.block D hlt hno).trans ho,fun hF'=>?_⟩
 rcases h'.fsub D hF' with q|q|q
 ·exact hF q
 ·have q:w.heap.size≤D:=q; omega
 ·exact hno q
theorem RelW.book {cx τ F s w} (h:RelW cx τ F s w) {D:Nat} {o o':Obj} (ho:w.heap[D]? = some o) (hc:ownKind o=false) (hF:¬ F D) (hD:cx.w.heap.size≤D):RelW cx τ F s (w.putObj D o'):=by
 have hoth:∀ k,k≠D→(w.putObj D o').heap[k]? = w.heap[k]? := fun k hk=>World.putObj_heap_other hk
 have hsz:(w.putObj D o').heap.size=w.heap.size:=by simp [World.putObj]
 have hno:∀ nm u b,τ nm=some u→hblk u=some b→b≠D:=fun nm u b hu hb e=>by
  obtain ⟨o1,hcl,hk⟩:=h.own_cells hu hb
  rw [e,ho] at hcl; injection hcl with hcl; subst hcl; rw [hk] at hc; cases hc
 have hfr:∀ k,F k→(w.putObj D o').heap[k]? = w.heap[k]? := fun k hk=>hoth k fun e=>hF (e▸hk)
 refine ⟨⟨h.keeps.os,h.keeps.tape,h.keeps.output,by rw [hsz]; exact h.keeps.size,fun k hlt hx=>(hoth k (by omega)).trans (h.keeps.block k hlt hx)⟩,fun k hk=>by rw [hsz]; exact h.fz k hk,h.fne,h.fsub,h.fsup,fun nm v b hv hb=>⟨(h.tlt nm v b hv hb).1,by rw [hsz]; exact (h.tlt nm v b hv hb).2⟩,h.inj,fun nm o1 hl=>?_,h.dom,h.old,h.cxn⟩
 obtain ⟨v,h1,h2⟩:=h.obj nm o1 hl
 exact ⟨v,h1,h2.mono (fun _ h=>h) hfr (fun _ _ h=>h) fun b hv=>hoth b (hno nm v b h1 hv)⟩
theorem RelA.book {cx τ F s a w} (h:RelA cx τ F s a w) {D:Nat} {o o':Obj} (ho:w.heap[D]? = some o) (hc:ownKind o=false) (hF:¬ F D) (hD:cx.w.heap.size≤D):RelA cx τ F s a (w.putObj D o'):=by
 have hfr:∀ k,F k→(w.putObj D o').heap[k]? = w.heap[k]? := fun k hk=>World.putObj_heap_other fun e=>hF (e▸hk)
 exact ⟨h.wr.book ho hc hF hD,h.size,h.defers,fun t x ht=>⟨(h.env t x ht).1,(h.env t x ht).2.mono (fun _ h=>h) hfr (fun _ _ h=>h)⟩⟩
def markD (D:Nat):Deferred:={ target:=.collected D,args:=#[] }
def MarkW (n0:Nat) (F:Nat→Prop) (w:World) (ds:List Deferred):Prop:=∃ Ds:List Nat,ds=Ds.map markD∧Ds.Nodup∧∀ D,D∈Ds→n0≤D∧¬ F D∧w.heap[D]? = some (.deferred (some []))
def RelM (cx:Cx) (s:St) (a:Act) (w:World):Prop:=∃ τ F,RelA { cx with ds:=a.defers } τ F s a w∧MarkW cx.w.heap.size F w a.defers
def AWpM (B:Tabs) (n:Nat) (c:Code) (s:St) (Q:Exit→St→Prop):Prop :=
 ∀ cx:Cx,cx.P=B.P→cx.n=n→∀ a w,RelM cx s a w→c.wp B.P (fun e a' w'=>∃ s',Q e s'∧RelM cx s' a' w') a w
section
variable {B : Tabs} {n : Nat} {s : St} {Q : Exit → St → Prop}
theorem RelM.sub {cx s s' a w} (h:RelM cx s a w) (hs:Sub s' s):RelM cx s' a w:=by
 obtain ⟨τ,F,hr,hm⟩:=h
 exact ⟨_,F,⟨RelA.subW hr.wr hs,hr.size,hr.defers,fun t x ht=>by
  obtain ⟨h1,h2⟩:=subEnv_at hs.1 t x ht
  exact ⟨(hr.env t x h1).1,(hr.env t x h1).2.refs (fun id h=>if_pos h) h2⟩⟩,hm⟩
theorem AWpM.of {c:Code} (h:AWp B n c s Q):AWpM B n c s Q:=by
 intro cx hP hn a w ⟨τ,F,hr,Ds,hds,hnd,hm⟩
 refine wp_mono (h.out (({ cx with ds:=a.defers }:Cx).now τ F w a.defers) hP hn a w ⟨τ,F,hr.now⟩) fun e a' w' ⟨s',hq,τ',F',hr'⟩=>⟨s',hq,τ',F',?_,Ds,?_,hnd,fun D hD=>?_⟩
 ·have:=hr.back hr'
  exact ⟨⟨this.wr.keeps,this.wr.fz,this.wr.fne,this.wr.fsub,this.wr.fsup,this.wr.tlt,this.wr.inj,this.wr.obj,this.wr.dom,this.wr.old,this.wr.cxn⟩,this.size,rfl,this.env⟩
 ·rw [show a'.defers=a.defers from hr'.defers]; exact hds
 ·obtain ⟨h1,h2,h3⟩:=hm D hD
  obtain ⟨q1,q2⟩:=hr.wr.still hr'.wr h3 rfl h2
  exact ⟨h1,q2,q1⟩
theorem AWpM.mono {c:Code} {Q':Exit→St→Prop} (h:AWpM B n c s Q) (hq:∀ e s,Q e s→Q' e s):AWpM B n c s Q' :=
 fun cx hP hn a w hr=>wp_mono (h cx hP hn a w hr) fun e a' w' ⟨s',h1,h2⟩=>⟨s',hq _ _ h1,h2⟩
theorem AWpM.seq {x y:Code} (h:AWpM B n x s (Then (fun s'=>AWpM B n y s' Q) Q)):AWpM B n (.seq x y) s Q:=by
 intro cx hP hn a w hr
 refine wp_seq (wp_mono (h cx hP hn a w hr) fun e a' w' ⟨s',h1,h2⟩=>?_)
 cases e with
 | normal=>exact h1 cx hP hn a' w' h2
 | _=>exact ⟨s',h1,h2⟩
theorem AWpM.cond {c:Operand} {x y:Code} (h:aget true s c fun cv=>match cv with
  | .val (.bool b)=>(b=true→AWpM B n x s Q)∧(b=false→AWpM B n y s Q)
  | _=>False):AWpM B n (.cond c x y) s Q:=by
 intro cx hP hn a w hr
 obtain ⟨cv,h,hc⟩:=aget_sound h
 obtain ⟨τ,F,hr1,hm⟩:=hr
 have h1:=hc F τ w cx.n a rfl hr1.env
 split at h
 ·rename_i b
  generalize hce:a.eval c=v at h1
  cases h1
  cases b with
  | true=>exact wp_cond_true hce (h.1 rfl cx hP hn a w ⟨τ,F,hr1,hm⟩)
  | false=>exact wp_cond_false hce (h.2 rfl cx hP hn a w ⟨τ,F,hr1,hm⟩)
 ·exact h.elim
theorem AWpM.block {id:Nat} {c:Code} (h:AWpM B n c s (InBlock id Q)):AWpM B n (.block id c) s Q:=by
 intro cx hP hn a w hr
 refine wp_block (wp_mono (h cx hP hn a w hr) fun e a' w' ⟨s',h1,h2⟩=>?_)
 cases e with
 | exit id' =>
  simp only [Exit.inBlock,InBlock] at h1 ⊢
  split
  ·rename_i e; subst e; simp only [Nat.beq_refl] at h1; exact ⟨s',h1,h2⟩
  ·rename_i e
   have:Nat.beq id' id=false:=by
    cases e':Nat.beq id' id with
    | false=>rfl
    | true=>exact absurd (Nat.eq_of_beq_eq_true e') e
   rw [this] at h1
   exact ⟨s',h1,h2⟩
 | _=>exact ⟨s',h1,h2⟩
theorem AWpM.weaken {c:Code} {s':St} (hs:Sub s' s) (h:AWpM B n c s' Q):AWpM B n c s Q :=
 fun cx hP hn a w hr=>h cx hP hn a w (hr.sub hs)
open Classical in
noncomputable def leastMuM {ι:Type} (cx:Cx) (I:ι→St) (μ:ι→Nat) (a:Act) (w:World):Nat :=
 if h:∃ k,∃ i,RelM cx (I i) a w∧μ i=k then (least h).choose else 0
theorem leastMuM_spec {ι:Type} {cx:Cx} {I:ι→St} {μ:ι→Nat} {a:Act} {w:World} (h:∃ i,RelM cx (I i) a w):(∃ i,RelM cx (I i) a w∧μ i=leastMuM cx I μ a w)∧∀ i,RelM cx (I i) a w→leastMuM cx I μ a w≤μ i:=by
 have h':∃ k,∃ i,RelM cx (I i) a w∧μ i=k:=let ⟨i,hi⟩:=h; ⟨_,i,hi,rfl⟩
 unfold leastMuM
 rw [dif_pos h']
 have:=(least h').choose_spec
 exact ⟨this.1,fun i hi=>this.2 _ ⟨i,hi,rfl⟩⟩
theorem AWpM.loop {ι:Type} {c:Code} (I:ι→St) (p:ι→Prop) (μ:ι→Nat) (i:ι) (hp:p i) (hs:Sub (I i) s)
  (round:∀ i,p i→AWpM B n c (I i) (Then (fun s'=>∃ i',p i'∧Sub (I i') s'∧μ i'<μ i) Q)):AWpM B n (.loop c) s Q:=by
 intro cx hP hn a w hr
 let I':{ i // p i }→St:=fun i=>I i.1
 let μ':{ i // p i }→Nat:=fun i=>μ i.1
 refine wp_loop (fun a w=>∃ i,RelM cx (I' i) a w) (fun a w=>leastMuM cx I' μ' a w) ⟨⟨i,hp⟩,hr.sub hs⟩ fun a w hI=>?_
 obtain ⟨⟨i,hi,hmu⟩,_⟩:=leastMuM_spec (μ:=μ') hI
 refine wp_mono (round i.1 i.2 cx hP hn a w hi) fun e a' w' ⟨s',h1,h2⟩=>?_
 cases e with
 | normal =>
  obtain ⟨i',hp',hs',hlt⟩:=h1
  have h3:RelM cx (I' ⟨i',hp'⟩) a' w':=h2.sub hs'
  refine ⟨⟨⟨i',hp'⟩,h3⟩,?_⟩
  have h4:=(leastMuM_spec (μ:=μ') ⟨⟨i',hp'⟩,h3⟩).2 ⟨i',hp'⟩ h3
  have h5:μ' i=μ i.1:=rfl
  have h6:μ' ⟨i',hp'⟩=μ i':=rfl
  omega
 | _=>exact ⟨s',h1,h2⟩
end
theorem callsIn_round {P:Program} {l m:Nat} {f:FuncId} {args:Array Value} {w:World} {R:Ending→World→Prop} (h:Calls P f args w R):CallsIn (Fence.wide.inRound l) m P f args w R:=callsIn_wide.2 h
def notDefer (o:Oper):Bool:=match o.op with
 | .defer _=>false
 | _=>true
theorem rowsIn_round {P:Program} {l m:Nat} {row:String} {args:Array Value} {w:World} {R:Value→World→Prop} (h:Rows P row args w R):RowsIn (Fence.wide.inRound l) m P row args w R :=
 fun c cs _=>let ⟨v,w',r,s⟩:=h c cs; ⟨v,w',r,(StepsIn.of_steps s).mono fun m _=>fenced_wide P m⟩
theorem upon_in {P:Program} {l m:Nat} {o:Oper} {a:Act} {next next':Act→World→Prop} {Q:Exit→Act→World→Prop} (hn:∀ a w,next a w→next' a w) {r:Result Next} (h:o.upon P a next Q r):o.uponIn (Fence.wide.inRound l) m P a next' Q r:=by
 cases r with
 | halt x w =>
  cases x<;>exact h
 | ok v w =>
  cases v with
  | value v=>exact hn _ _ h
  | skip=>exact hn _ _ h
  | defer d=>exact hn _ _ h
  | enter f args =>
   refine ⟨(fun h=>by cases h),(callsIn_round (Calls.mono h fun e w' he=>?_))⟩
   cases e with
   | returned v=>exact hn _ _ he
   | panicked ch=>exact he
   | outgrown=>exact he
  | row row args=>exact ⟨(fun h=>by cases h),rowsIn_round (Rows.mono h fun v w' he=>hn _ _ he)⟩
  | _=>exact h.elim
theorem wpList_in {P:Program} {l m:Nat} {ops:Array Oper} {Q:Exit→Act→World→Prop} (hQ:¬ LetsOut Q):∀ {L:List Oper} {a:Act} {w:World},L.all notDefer=true→wpList P ops Q L a w→wpListIn (Fence.wide.inRound l) m P ops Q L a w
 | [],a,w,_,h=>h
 | o :: r,a,w,hd,h=>by
  simp only [List.all_cons,Bool.and_eq_true] at hd
  simp only [wpList] at h
  simp only [wpListIn]
  split at h
  ·rename_i hw
   rw [if_pos hw]
   rcases h with h|⟨_,h⟩
   ·refine ⟨fun _ _=>trivial,?_⟩
    rw [Oper.semAt_eq _ _ _ (fun c hc=>by have:=hd.1; unfold notDefer at this; rw [hc] at this; cases this)]
    exact upon_in (fun a w h=>wpList_in hQ hd.2 h) h
   ·exact absurd h hQ
  ·rename_i hw
   rw [if_neg hw]
   exact ⟨fun _ _=>trivial,wpList_in hQ hd.2 h⟩
def AWpR (B:Tabs) (n:Nat) (c:Code) (s:St) (Q:Exit→St→Prop):Prop :=
 ∀ cx:Cx,cx.P=B.P→cx.n=n→∀ (l m:Nat) a w,Rel cx s a w→c.wpIn (Fence.wide.inRound l) m B.P (fun e a' w'=>∃ s',Q e s'∧Rel cx s' a' w') a w
section
variable {B : Tabs} {n : Nat} {s : St} {Q : Exit → St → Prop}
theorem AWpR.mono {c:Code} {Q':Exit→St→Prop} (h:AWpR B n c s Q) (hq:∀ e s,Q e s→Q' e s):AWpR B n c s Q' :=
 fun cx hP hn l m a w hr=>wpIn_mono (h cx hP hn l m a w hr) fun e a' w' ⟨s',h1,h2⟩=>⟨s',hq _ _ h1,h2⟩
theorem AWpR.skip (h:Q .normal s):AWpR B n .skip s Q:=fun cx hP hn l m a w hr=>wpIn_skip ⟨s,h,hr⟩
theorem AWpR.exit {id:Nat} (h:Q (.exit id) s):AWpR B n (.exit id) s Q:=fun cx hP hn l m a w hr=>wpIn_exit ⟨s,h,hr⟩
theorem AWpR.seq {x y:Code} (h:AWpR B n x s (Then (fun s'=>AWpR B n y s' Q) Q)):AWpR B n (.seq x y) s Q:=by
 intro cx hP hn l m a w hr
 refine wpIn_seq (wpIn_mono (h cx hP hn l m a w hr) fun e a' w' ⟨s',h1,h2⟩=>?_)
 cases e with
 | normal=>exact h1 cx hP hn l m a' w' h2
 | _=>exact ⟨s',h1,h2⟩
theorem AWpR.cond {c:Operand} {x y:Code} (h:aget true s c fun cv=>match cv with
  | .val (.bool b)=>(b=true→AWpR B n x s Q)∧(b=false→AWpR B n y s Q)
  | _=>False):AWpR B n (.cond c x y) s Q:=by
 intro cx hP hn l m a w hr
 obtain ⟨cv,h,hc⟩:=aget_sound h
 obtain ⟨τ,F,hr1⟩:=hr
 have h1:=hc F τ w cx.n a rfl hr1.env
 split at h
 ·rename_i b
  generalize hce:a.eval c=v at h1
  cases h1
  cases b with
  | true=>exact wpIn_cond_true hce (h.1 rfl cx hP hn l m a w ⟨τ,F,hr1⟩)
  | false=>exact wpIn_cond_false hce (h.2 rfl cx hP hn l m a w ⟨τ,F,hr1⟩)
 ·exact h.elim
theorem AWpR.block {id:Nat} {c:Code} (h:AWpR B n c s (InBlock id Q)):AWpR B n (.block id c) s Q:=by
 intro cx hP hn l m a w hr
 refine wpIn_block (wpIn_mono (h cx hP hn l m a w hr) fun e a' w' ⟨s',h1,h2⟩=>?_)
 cases e with
 | exit id' =>
  simp only [Exit.inBlock,InBlock] at h1 ⊢
  split
  ·rename_i e; subst e; simp only [Nat.beq_refl] at h1; exact ⟨s',h1,h2⟩
  ·rename_i e
   have:Nat.beq id' id=false:=by
    cases e':Nat.beq id' id with
    | false=>rfl
    | true=>exact absurd (Nat.eq_of_beq_eq_true e') e
   rw [this] at h1
   exact ⟨s',h1,h2⟩
 | _=>exact ⟨s',h1,h2⟩
theorem AWpR.region {id:Nat} {l:List Oper} (hd:l.all notDefer=true) (h:aops B n l l s (fun s'=>Unit→Q .normal s')):AWpR B n (.region id l.toArray false) s Q:=by
 intro cx hP hn k m a w hr
 subst hn
 rw [← hP]
 have h1:wpList cx.P l.toArray (fun e a' w'=>e=.normal∧∃ s',Q .normal s'∧Rel cx s' a' w') l a w:=aops_sound B hP l h hr fun s' a' w' hK hr'=>⟨rfl,s',hK (),hr'⟩
 have h2:=wpList_in (l:=k) (m:=m) (fun ⟨a,w,h⟩=>by cases h.1) hd h1
 exact wpIn_mono (wpIn_region_lit h2) fun e a' w' ⟨he,hx⟩=>by subst he; exact hx
end
def BackOK (P:Program) (gf:Nat):Prop :=
 (∀ args w,(callFunc gf args).run P w=.ok (.enter gf args) w) ∧
 ∀ (l b o c b' o' m:Nat) (A:Option Addr) (z:Nat→Int) (J:Nat→World→Prop) (W:World),m≤maxLen→(0<m→A=some ⟨b',o',none⟩) →
  (∀ k W,J k W→W.cell? ⟨b,o,none⟩=some (.slice A m c)) →
  (∀ k W,J k W→∀ i,i<m→W.cell? ⟨b',o'+i,none⟩=some (.int .i64 (z i))) →
  (∀ k W,k<m→J k W→YieldAt Fence.wide 1 P l #[.int .i64 ((m - 1 - k:Nat):Int),.int .i64 (z (m - 1 - k))] W fun e W'=>e=.returned (.bool true)∧J (k+1) W') →
  J 0 W→CallsIn Fence.wide 2 P gf #[.func (.yield l) #[] #[],.pointer (some ⟨b,o,none⟩)] W fun e W'=>(∃ v,e=.returned v)∧J m W'
def lentEnv (σ:List (Nat×Nat)) (s:St) (pre:List (Nat×HO)):List (Nat×AV)→Prop
 | []=>True
 | (t,x)::r=>look s.env t=some (x.sig σ)∧AV.refsP (domP pre) x∧lentEnv σ s pre r
theorem lentEnv_at {σ s pre}:∀ {E:List (Nat×AV)},lentEnv σ s pre E→∀ {t x},look E t=some x→look s.env t=some (x.sig σ)∧AV.refsP (domP pre) x
 | [],_,t,x,h=>by cases h
 | (k,y)::r,h,t,x,hl=>by
  rw [look_cons] at hl
  split at hl
  ·rename_i e; subst e; injection hl with hl; subst hl; exact ⟨h.1,h.2.1⟩
  ·exact lentEnv_at h.2.2 hl
theorem AWpM.rangeBack {B:Tabs} {n:Nat} {s:St} {Q:Exit→St→Prop} {t gf m p0 p1:Nat} {z:Nat→Int} {assign body:Code} (it:BackOK B.P gf)
  (hg:look s.env t=some (.fn gf [.ptr [.ro 1 m fun i=>[.i64 (z i)]]]))
  (J:Nat→List (Nat×HO)) (σ:List (Nat×Nat)) (E:List (Nat×AV)) (hE:lentEnv σ s (J 0) E) (hall:AllAt s.heap (sigH σ (J 0)))
  (hcl:heapRefs (domP (J 0)) (J 0)) (hkd:keptDom (J m) (J 0)) (hok:sigOK s σ ⟨[],J 0,.any,J m⟩=true) (hdom:∀ k nm,k≤m→domP (J 0) nm→domP (J k) nm) (hp:(Nat.blt p0 n&&Nat.blt p1 n&&!Nat.beq p0 p1)=true)
  (hround:∀ k,k<m→AWpR B n assign ⟨(p1,.i64 (z (m - 1 - k)))::(p0,.i64 ((m - 1 - k:Nat):Int))::E,J k⟩ (Then (fun s'=>AWpR B n body s' fun e s''=>e=.normal∧Sub ⟨[],J (k+1)⟩ s'') fun _ _=>False))
  (hQ:Q .normal (s.after σ ⟨[],J 0,.any,J m⟩ p0)):AWpM B n (.rangeFunc (.tmp t) #[p0,p1] assign body) s Q:=by
 intro cx hP hn a w ⟨τ,F,hr,Ds,hds,hnd,hm⟩
 simp only [Bool.and_eq_true,Bool.not_eq_true',Nat.blt_eq] at hp
 have hp01:p0≠p1:=fun e=>by rw [e,Nat.beq_refl] at hp; cases hp.2
 obtain ⟨τ1,rel1,hown,hunsig,hback⟩:=hr.lendT (P:=B.P) (args:=[]) (R:=fun res post=>res=.any∧post=J m) hcl (fun res post h=>by rw [h.2]; exact hkd) hall (sigPre_of hok) (fun res post h=>by rw [h.1,h.2]; exact hok) (d:=p0) (by show p0<cx.n; rw [hn]; exact hp.1.1)
 have h1000:∀ nm,domP (J 0) nm→1000≤nm.id:=fun nm hd=>by
  simp only [sigOK,Bool.and_eq_true] at hok
  obtain ⟨⟨⟨⟨⟨⟨⟨k0,k1⟩,k2⟩,k3⟩,k4⟩,k5⟩,k6⟩,k7⟩:=hok
  obtain ⟨o,x,hx,_⟩:=has_of_dom hd
  exact Nat.le_of_ble_eq_true (List.all_eq_true.1 k4 nm.id (List.mem_map_of_mem (f:=fun x:Nat×HO=>x.1) (look_mem hx)))
 -- what the function's value is
 have hgr:=(hr.env t _ hg).2
 have hge:a.eval (.tmp t)=a.tmps.getD t undef:=rfl
 rw [← hge] at hgr
 generalize hgv:a.eval (.tmp t)=gv at hgr
 obtain ⟨b,o,A,c,rfl,hFb,hcb,hmc,hrow⟩:∃ b o A c,gv=.func (.func gf) #[] #[.pointer (some ⟨b,o,none⟩)]∧F b∧w.cell? ⟨b,o,none⟩=some (.slice A m c)∧m≤maxLen∧∃ b' o',(0<m→A=some ⟨b',o',none⟩∧F b')∧∀ i,i<m→w.cell? ⟨b',o'+i,none⟩=some (.int .i64 (z i)):=by
  cases hgr with
  | fn _ _ _ vs hl hv =>
   have h0:=hv 0 _ rfl
   obtain ⟨v,rfl⟩:∃ v,vs=#[v]:=by
    rcases vs with ⟨l⟩
    match l,hl with
    | [v],_=>exact ⟨v,rfl⟩
   generalize hvv:(#[v]:Array Value).getD 0 undef=v' at h0
   have:v=v':=hvv
   subst this
   cases h0 with
   | ptr _ _ b o f hF hc hx =>
    have h1:=hx 0 _ rfl
    have hc0:=hc 0 (by simp)
    generalize hfv:f 0=fv at h1 hc0
    cases h1 with
    | ro _ _ _ _ A c fr h2 h3 h4 h5 h6 =>
     by_cases hm0:0<m
     ·obtain ⟨b',o',rfl,hF',hcell⟩:=h4 hm0
      refine ⟨b,o,_,c,rfl,hF,by simpa using hc0,Nat.le_trans h2 h3,b',o',fun _=>⟨rfl,hF'⟩,fun i hi=>?_⟩
      have:=hcell i 0 hi (by omega)
      have e:=h6 i 0 (.i64 (z i)) hi rfl
      generalize hq:fr i 0=q at e this
      cases e
      rw [show o'+i=o'+i * 1+0 by omega]; exact this
     ·exact ⟨b,o,A,c,rfl,hF,by simpa using hc0,Nat.le_trans h2 h3,0,0,fun h=>absurd h hm0,fun i hi=>absurd hi (by omega)⟩
 obtain ⟨b',o',hA,hrow⟩:=hrow
 -- a round's surroundings
 have hn1000:n≤1000:=by have:=hr.wr.cxn; rw [← hn]; exact this
 have relB:RelW (cxM B.P n F τ1 w) τ1 F ⟨[],J 0⟩ w:=⟨rel1.keeps,rel1.fz,rel1.fne,rel1.fsub,rel1.fsup,rel1.tlt,rel1.inj,rel1.obj,rel1.dom,rel1.old,hn1000⟩
 have kept:∀ {k τ' F' W},k≤m→RelW (cxM B.P n F τ1 w) τ' F' ⟨[],J k⟩ W→∀ nm u,τ1 nm=some u→τ' nm=some u:=fun {k τ' F' W} hk hR nm u hu=>by
  obtain ⟨o,ho⟩:=rel1.dom nm u hu
  have hd:domP (J 0) nm:=domP_of ho
  obtain ⟨o2,ho2⟩:=has_of_dom (hdom k nm hk hd)
  obtain ⟨v,hv,_⟩:=hR.obj nm o2 ho2
  have hv1:τ1 nm=some v:=hR.old nm v (h1000 nm hd) hv
  rw [hu] at hv1; injection hv1 with hv1; subst hv1; exact hv
 have frz:∀ {s' τ' F' W},RelW (cxM B.P n F τ1 w) τ' F' s' W→∀ k,F k→W.heap[k]? = w.heap[k]? := fun {s' τ' F' W} hR k hk=>by
  refine hR.keeps.block k (rel1.fz k hk) fun ⟨nm,u,hu,hb⟩=>rel1.fne k nm u hk hu hb
 have hEnv:∀ t x,look E t=some x→t<n∧Rep F w τ1 x (a.tmps.getD t undef):=fun t x ht=>by
  obtain ⟨q1,q2⟩:=lentEnv_at hE ht
  have:=hr.env t _ q1
  exact ⟨by rw [← hn]; exact this.1,hunsig q2 this.2⟩
 rw [← wpIn_wide (n:=3)]
 refine wpIn_rangeFunc ?_
 intro fn hfn
 obtain ⟨rec,hrec⟩:∃ rec:LoopState→Loop,rec=fun st=>{ state:=st,pending:=none,fn,tmps:=a.tmps,params:=#[p0,p1],assign,body,defers:=w.heap.size }:=⟨_,rfl⟩
 obtain ⟨W1,hW1⟩:∃ W1,(w.alloc (.deferred (some []))).alloc (.loop (rec .ready))=W1:=⟨_,rfl⟩
 have hL1:W1.heap[w.heap.size+1]? = some (.loop (rec .ready)):=by
  rw [← hW1]; have:=World.alloc_heap_new (w.alloc (.deferred (some []))) (.loop (rec .ready)); rwa [World.size_alloc] at this
 have hK1:W1.heap[w.heap.size]? = some (.deferred (some [])):=by
  rw [← hW1]; exact (Below.heap_alloc _ _ _ (by simp)).trans (World.alloc_heap_new w _)
 have hb1:Below w.heap.size w W1:=by
  rw [← hW1]; exact ((Below.refl _ w).alloc (Nat.le_refl _) _).alloc (by simp) _
 have relL:RelW (cxM B.P n F τ1 w) τ1 F ⟨[],J 0⟩ W1:=by
  have hF:∀ k,F k→W1.heap[k]? = w.heap[k]? := fun k hk=>hb1.block k (rel1.fz k hk)
  refine ⟨.of_below hb1,fun k hk=>Nat.lt_of_lt_of_le (relB.fz k hk) hb1.size,relB.fne,relB.fsub,relB.fsup,fun nm v b hv hb=>⟨(relB.tlt nm v b hv hb).1,Nat.lt_of_lt_of_le (relB.tlt nm v b hv hb).2 hb1.size⟩,relB.inj,fun nm o hl=>?_,relB.dom,relB.old,relB.cxn⟩
  obtain ⟨v,h1,h2⟩:=relB.obj nm o hl
  exact ⟨v,h1,h2.mono (fun _ h=>h) hF (fun _ _ h=>h) fun b hv=>hb1.block b (relB.tlt nm v b h1 hv).2⟩
 let JJ:Nat→World→Prop:=fun k W=>k≤m∧∃ τ' F',RelW (cxM B.P n F τ1 w) τ' F' ⟨[],J k⟩ W∧¬ F' w.heap.size∧¬ F' (w.heap.size+1)∧W.heap[w.heap.size+1]? = some (.loop (rec .ready))∧W.heap[w.heap.size]? = some (.deferred (some []))
 have hJ0:JJ 0 W1:=⟨Nat.zero_le _,τ1,F,relL,fun h=>by have:=rel1.fz _ h; omega,fun h=>by have:=rel1.fz _ h; omega,hL1,hK1⟩
 refine ⟨w.heap.size+1,[{ target:=.collected w.heap.size,args:=#[] }],W1,{ target:=.fn (.func gf) #[.pointer (some ⟨b,o,none⟩)],args:=#[.func (.yield (w.heap.size+1)) #[] #[]] },W1,gf,
  #[.func (.yield (w.heap.size+1)) #[] #[]]++#[.pointer (some ⟨b,o,none⟩)],W1,?_,?_,fun _ _=>trivial,?_,(fun h=>by cases h),?_⟩
 ·rw [← hW1,hrec]; exact run_enterLoop_outer _ _ _ _ _
 ·simp only [resolve,hgv]
  simp [go_sem]
 ·simp [invoke,go_sem,it.1]
 refine (it.2 (w.heap.size+1) b o c b' o' m A z JJ W1 hmc (fun h=>(hA h).1) (fun k W hj=>?_) (fun k W hj i hi=>?_) (fun k W hk hj=>?_) hJ0).mono ?_
 ·obtain ⟨_,τ',F',hR,_⟩:=hj
  rw [World.cell?_of_block (w:=w) (frz hR b hFb)]; exact hcb
 ·obtain ⟨_,τ',F',hR,_⟩:=hj
  rw [World.cell?_of_block (w:=w) (frz hR b' (hA (by omega)).2)]; exact hrow i hi
 ·obtain ⟨hkm,τ',F',hR,hD,hL,hl,hd⟩:=hj
  obtain ⟨T,hT,hy⟩:∃ T,T=(a.tmps.setIfInBounds p0 (.int .i64 ((m - 1 - k:Nat):Int))).setIfInBounds p1 (.int .i64 (z (m - 1 - k)))∧(Instr.yield (w.heap.size+1) #[.int .i64 ((m - 1 - k:Nat):Int),.int .i64 (z (m - 1 - k))]).run B.P W=.ok (.round (w.heap.size+1) fn T assign body) W :=
   ⟨_,rfl,by rw [run_yield (P:=B.P) hl (by rw [hrec]; rfl),hrec]; simp⟩
  subst hT
  refine ⟨fn,_,assign,body,hy,roundIn_of_wpIn hfn ?_⟩
  have hsz:a.tmps.size=n:=by rw [← hn]; exact hr.size
  -- the round's activation is as it is said
  have rel0:RelA (cxM B.P n F τ1 w) τ' F' ⟨(p1,.i64 (z (m - 1 - k)))::(p0,.i64 ((m - 1 - k:Nat):Int))::E,J k⟩ { tmps:=(a.tmps.setIfInBounds p0 (.int .i64 ((m - 1 - k:Nat):Int))).setIfInBounds p1 (.int .i64 (z (m - 1 - k))),defers:=[] } W:=by
   refine ⟨⟨hR.keeps,hR.fz,hR.fne,hR.fsub,hR.fsup,hR.tlt,hR.inj,hR.obj,hR.dom,hR.old,hR.cxn⟩,by show _=n; simpa using hsz,rfl,fun t x ht=>?_⟩
   rw [look_cons] at ht
   split at ht
   ·rename_i e; subst e; injection ht with ht; subst ht
    refine ⟨hp.1.2,?_⟩
    simp only [Array.getD_eq_getD_getElem?]
    rw [Array.getElem?_setIfInBounds_self_of_lt (by simpa [hsz] using hp.1.2)]
    exact .val _ _
   ·rename_i e1
    rw [look_cons] at ht
    split at ht
    ·rename_i e; subst e; injection ht with ht; subst ht
     refine ⟨hp.1.1,?_⟩
     simp only [Array.getD_eq_getD_getElem?]
     rw [Array.getElem?_setIfInBounds_ne (by omega),Array.getElem?_setIfInBounds_self_of_lt (by simpa [hsz] using hp.1.1)]
     exact .val _ _
    ·rename_i e2
     obtain ⟨q1,q2⟩:=hEnv t x ht
     refine ⟨q1,?_⟩
     simp only [Array.getD_eq_getD_getElem?] at q2 ⊢
     rw [Array.getElem?_setIfInBounds_ne (by omega),Array.getElem?_setIfInBounds_ne (by omega)]
     exact q2.mono hR.fsup (frz hR) (kept hkm hR)
  refine wpIn_mono (hround k hk ((cxM B.P n F τ1 w).now τ' F' W []) rfl rfl (w.heap.size+1) 1 _ W ⟨τ',F',rel0.now⟩) fun e a1 Wa ⟨s1,hq1,τ2,F2,hr2⟩=>?_
  cases e with
  | normal =>
   have hq1:AWpR B n body s1 fun e s''=>e=.normal∧Sub ⟨[],J (k+1)⟩ s'':=hq1
   have hrA:=rel0.back hr2
   obtain ⟨g1,g2⟩:=rel0.wr.still hr2.wr hl rfl hL
   obtain ⟨g3,g4⟩:=rel0.wr.still hr2.wr hd rfl hD
   refine ⟨_,run_beginRound g1 (by rw [hrec]),?_⟩
   have hlt:w.heap.size+1<Wa.heap.size:=(Array.getElem?_eq_some_iff.1 g1).1
   have hrB:=hrA.book (o':=.loop { rec .ready with state:=.busy }) g1 rfl g2 (by show w.heap.size≤_; omega)
   have hl2:(Wa.putObj (w.heap.size+1) (.loop { rec .ready with state:=.busy })).heap[w.heap.size+1]? = some (.loop { rec .ready with state:=.busy }):=World.putObj_heap_same hlt
   have hk2:(Wa.putObj (w.heap.size+1) (.loop { rec .ready with state:=.busy })).heap[w.heap.size]? = some (.deferred (some [])):=(World.putObj_heap_other (by omega)).trans g3
   have hdef:a1.defers=[]:=hr2.defers
   refine wpIn_mono (hq1 ((cxM B.P n F τ1 w).now τ2 F2 _ a1.defers) rfl rfl (w.heap.size+1) 1 a1 _ ⟨τ2,F2,hrB.now⟩) fun e a3 W3 ⟨s3,⟨he,hs3⟩,τ3,F3,hr3⟩=>?_
   subst he
   have hrC:=hrB.back hr3
   obtain ⟨g5,g6⟩:=hrB.wr.still hr3.wr hl2 rfl g2
   obtain ⟨g7,g8⟩:=hrB.wr.still hr3.wr hk2 rfl g4
   have hrun:=run_endRound (P:=B.P) none g5
   rw [hrec] at hrun
   refine ⟨_,_,hrun,rfl,hk,_,F3,(RelA.subW hrC.wr hs3).book g5 rfl g6 (by show w.heap.size≤_; omega),g8,g6,?_,?_⟩
   ·have:=World.putObj_heap_same (w:=W3) (o:=.loop (rec .ready)) (Array.getElem?_eq_some_iff.1 g5).1
    rw [hrec] at this ⊢; exact this
   ·exact (World.putObj_heap_other (by omega)).trans g7
  | _=>exact hq1.elim
 ·rintro e W2 ⟨⟨v,rfl⟩,hkm,τ',F',hR,hD,hL,hl,hd⟩
  have hend:=run_endLoop (P:=B.P) hl (by rw [hrec]; simp)
  rw [hrec] at hend
  refine ⟨none,_,hend,?_⟩
  have hRe:=hR.book (o':=.loop { rec .ready with state:=.exhausted }) hl rfl hL (by show w.heap.size≤_; omega)
  rw [hrec] at hRe
  obtain ⟨τ2,h2⟩:=hback _ (a.tmps.getD p0 undef) F' τ' .any (J m) ⟨rfl,rfl⟩ ⟨hRe.keeps,hRe.fz,hRe.fne,hRe.fsub,hRe.fsup,hRe.tlt,hRe.inj,hRe.obj,hRe.dom,hRe.old,Nat.zero_le _⟩ (.any _ _)
  have hput:a.put (some p0) (a.tmps.getD p0 undef)=a:=by
   have:a.tmps.setIfInBounds p0 (a.tmps.getD p0 undef)=a.tmps:=by
    refine Array.ext_getElem? fun i=>?_
    by_cases e:p0=i
    ·subst e
     by_cases hlt:p0<a.tmps.size
     ·rw [Array.getElem?_setIfInBounds_self_of_lt hlt,Array.getD_eq_getD_getElem?,Array.getElem?_eq_getElem hlt]; rfl
     ·rw [Array.getElem?_eq_none (by simpa using hlt),Array.getElem?_eq_none (by omega)]
    ·rw [Array.getElem?_setIfInBounds_ne e]
   simp only [Act.put,this]
  rw [hput] at h2
  refine ⟨_,hQ,τ2,F',⟨⟨h2.wr.keeps,h2.wr.fz,h2.wr.fne,h2.wr.fsub,h2.wr.fsup,h2.wr.tlt,h2.wr.inj,h2.wr.obj,h2.wr.dom,h2.wr.old,h2.wr.cxn⟩,h2.size,rfl,h2.env⟩,w.heap.size::Ds,by rw [hds]; rfl,?_,fun D hDm=>?_⟩
  ·refine List.nodup_cons.2 ⟨fun hmem=>?_,hnd⟩
   have:=(Array.getElem?_eq_some_iff.1 (hm _ hmem).2.2).1
   omega
  ·rcases List.mem_cons.1 hDm with rfl|hDm
   ·exact ⟨hr.wr.keeps.size,hD,(World.putObj_heap_other (by omega)).trans hd⟩
   ·obtain ⟨q1,q2,q3⟩:=hm D hDm
    have hlt:D<w.heap.size:=(Array.getElem?_eq_some_iff.1 q3).1
    have hno:¬ ownB τ1 D:=fun h=>by
     obtain ⟨nm,u,hu,hb⟩:=hown D h
     obtain ⟨o1,hcl,hk⟩:=hr.wr.own_cells hu hb
     rw [q3] at hcl; injection hcl with hcl; subst hcl; cases hk
    refine ⟨q1,fun hF'=>?_,(World.putObj_heap_other (by omega)).trans ((hR.keeps.block D hlt hno).trans q3)⟩
    rcases hR.fsub D hF' with q|q|q
    ·exact q2 q
    ·have q:w.heap.size≤D:=q; omega
    ·exact hno q
theorem leaves_marks {P:Program} {fn:Func} {cx:Cx} {τ F s} {a:Act} {R:Ending→World→Prop} (hfin:∀ w,RelA cx τ F s a w→∃ v,(results fn a.tmps).run P w=.ok v w∧R (.returned v) w):∀ (Ds:List Nat) (w:World),Ds.Nodup→(∀ D,D∈Ds→cx.w.heap.size≤D∧¬ F D∧w.heap[D]? = some (.deferred (some [])))→RelA cx τ F s a w→LeavesInM Fence.wide 3 P fn a.tmps R (Ds.map markD) .returning w
 | [],w,_,_,hr=>hfin w hr
 | D::Ds,w,hnd,hm,hr=>by
  obtain ⟨h1,h2,h3⟩:=hm D (List.mem_cons_self ..)
  obtain ⟨n1,n2⟩:=List.nodup_cons.1 hnd
  refine ⟨by simp,.inl ⟨D,_,rfl,run_takeDeferred h3,?_⟩⟩
  refine leaves_marks hfin Ds _ n2 (fun D' hD'=>?_) (hr.book h3 rfl h2 h1)
  obtain ⟨q1,q2,q3⟩:=hm D' (List.mem_cons_of_mem _ hD')
  exact ⟨q1,q2,(World.putObj_heap_other (w:=w) (o:=.deferred none) (r:=D) (k:=D') (fun e=>by subst e; exact n1 hD')).trans q3⟩
theorem ACallM.enterR (B : Tabs) {f : FuncId} {fn : Func} {c : Code} {sp : MSpec} (n : Nat) (rvs : List ResultVar) (hf : B.P.funcs[f]? = some fn) (hb : fn.body = some c) (hnm : (fn.name != "runtime.NumGoroutine") = true) (hn : fn.ntmps = n) (hrv : fn.results = rvs.toArray) (hl : (Nat.ble sp.args.length n && Nat.ble n 1000) = true)
  (hcl:sp.closed) (h:Reals sp.args→AWpM B n c ⟨enum 0 sp.args,sp.pre⟩ (EndsM B rvs sp.res sp.post)):ACallM B.P f sp:=by
 subst hn
 rw [Bool.and_eq_true] at hl
 have hl1:=Nat.le_of_ble_eq_true hl.1
 unfold ACallM
 refine ⟨by unfold fnB; rw [hf]; simp only [hnm,hb]; rfl,hcl,fun F τ w vs hR hlen hrep=>?_⟩
 let cx:Cx:=cxM B.P fn.ntmps F τ w
 rw [← callsIn_wide (n:=3)]
 refine callsIn_of_wp_marks hf hb zt ?_
 rw [wpIn_wide]
 have hvs:vs.toArray.size=sp.args.length:=by simpa using hlen
 have hrel:RelM cx ⟨enum 0 sp.args,sp.pre⟩ { tmps:=vs.toArray++Array.replicate (fn.ntmps - vs.toArray.size) undef,defers:=[] } w:=by
  refine ⟨τ,F,⟨⟨hR.keeps,hR.fz,hR.fne,hR.fsub,hR.fsup,hR.tlt,hR.inj,hR.obj,hR.dom,hR.old,Nat.le_of_ble_eq_true hl.2⟩,by simp [cx,cxM,hvs]; omega,rfl,fun t x ht=>?_⟩,[],rfl,List.nodup_nil,fun D hD=>by cases hD⟩
  obtain ⟨_,h2⟩:=look_enum sp.args 0 t x ht
  simp only [Nat.sub_zero] at h2
  have hlt:t<sp.args.length:=(List.getElem?_eq_some_iff.1 h2).1
  refine ⟨by show t<fn.ntmps; omega,?_⟩
  have e:(vs.toArray++Array.replicate (fn.ntmps - vs.toArray.size) undef).getD t undef=vs.getD t undef:=by
   simp only [Array.getD_eq_getD_getElem?]
   rw [Array.getElem?_append_left (by omega)]
   simp
  rw [e]; exact hrep t x h2
 refine wp_mono (h (reals_of sp.args vs hrep) cx rfl rfl _ w hrel) fun e a' w' ⟨s',⟨he,hres⟩,hr'⟩=>?_
 obtain ⟨τ',F',hr',Ds,hds,hnd,hm⟩:=hr'
 have hrv':rvs=fn.results.toList:=by rw [hrv]
 subst hrv'
 obtain ⟨xs,hxs,hxl,hs⟩:=resAll_sound _ hres
 obtain ⟨hxs,hrefs,hsub⟩:=hxs ()
 have hfin:∀ w',RelA { cx with ds:=a'.defers } τ' F' s' a' w'→∃ v',(results fn a'.tmps).run B.P w'=.ok v' w'∧∃ v F' τ',Ending.returned v'=Ending.returned v∧RelW (cxM B.P 0 F τ w) τ' F' ⟨[],sp.post⟩ w'∧Rep F' w' τ' sp.res v:=fun w' hr'=>by
  obtain ⟨us,h1,h2,h3⟩:=hs _ τ' F' a' w' hr'
  have hrun:∃ v,(results fn a'.tmps).run B.P w'=.ok v w'∧Rep F' w' τ' sp.res v:=by
   refine ⟨if h:us.toArray.size=1 then us.toArray[0] else .tuple us.toArray,?_,?_⟩
   ·have hres:results fn a'.tmps=(do let vs ← fn.results.mapM (resF a'.tmps); pure (if h:vs.size=1 then vs[0] else .tuple vs)):=by
     unfold results; congr 1
    rw [hres,Array.mapM_eq_mapM_toList]
    simp only [Sem.run_bind,Sem.run_map]
    rw [h3]
    rfl
   ·rw [← hxs]
    have tupc:xs.length≠1→Rep F' w' τ' (.tup xs) (if h:us.toArray.size=1 then us.toArray[0] else .tuple us.toArray):=by
     intro hne
     have hu:us.toArray.size≠1:=by simpa [h1] using hne
     rw [dif_neg hu]
     exact .tup _ _ _ (by simp [h1]) fun j c hc=>by simpa using h2 j c hc
    match xs,h1,h2,tupc with
    | [],_,_,tupc=>exact tupc (by simp)
    | x::y::r,_,_,tupc=>exact tupc (by simp)
    | [x],h1,h2,_ =>
     match us,h1,h2 with
     | [u],_,h2=>have h4:=h2 0 x rfl; simp at h4; exact h4
  obtain ⟨v,hv1,hv2⟩:=hrun
  have hsub':Sub ⟨[],sp.post⟩ s':=⟨zt,hsub⟩
  let τ2:Nm→Option Value:=fun nm=>open Classical in if domP sp.post nm then τ' nm else none
  have hτ2:∀ nm,domP sp.post nm→τ2 nm=τ' nm:=fun nm h=>if_pos h
  obtain ⟨hq1,hq2⟩:RelW _ τ2 F' ⟨[],sp.post⟩ w'∧True:=⟨RelA.subW hr'.wr hsub',zt⟩
  have hv3:Rep F' w' τ2 sp.res v:=hv2.refs hτ2 hrefs
  have hR':RelW (cxM B.P 0 F τ w) τ2 F' ⟨[],sp.post⟩ w':=⟨hq1.keeps,hq1.fz,hq1.fne,hq1.fsub,hq1.fsup,hq1.tlt,hq1.inj,hq1.obj,hq1.dom,hq1.old,Nat.zero_le _⟩
  exact ⟨v,hv1,v,F',τ2,rfl,hR',hv3⟩
 have hL:=leaves_marks (P:=B.P) (fn:=fn) (cx:={ cx with ds:=a'.defers }) (τ:=τ') (F:=F') (s:=s') (a:=a') (R:=fun e w'=>∃ v F' τ',e=Ending.returned v∧RelW (cxM B.P 0 F τ w) τ' F' ⟨[],sp.post⟩ w'∧Rep F' w' τ' sp.res v) hfin Ds w' hnd hm hr'
 rw [← hds] at hL
 rcases he with rfl|rfl
 ·exact hL
 ·exact hL
end Go.Abs
attribute [irreducible] Go.Abs.AWpM Go.Abs.AWpR
namespace Go.Proofs.YtbmccmbgnkbmiaaGreat
open Go Go.Abs Go.RowKit
set_option maxRecDepth 100000 in
set_option maxHeartbeats 2000000 in
theorem back_in (l b o c b' o' m:Nat) (A:Option Addr) (z:Nat→Int) (J:Nat→World→Prop) (W:World) (hm:m≤maxLen) (hA:0<m→A=some ⟨b',o',none⟩)
  (hc:∀ k W,J k W→W.cell? ⟨b,o,none⟩=some (.slice A m c))
  (hr:∀ k W,J k W→∀ i,i<m→W.cell? ⟨b',o'+i,none⟩=some (.int .i64 (z i)))
  (hY:∀ k W,k<m→J k W→YieldAt Fence.wide 1 Tryz.prog l #[.int .i64 ((m - 1 - k:Nat):Int),.int .i64 (z (m - 1 - k))] W fun e W'=>e=.returned (.bool true)∧J (k+1) W')
  (h0:J 0 W):CallsIn Fence.wide 2 Tryz.prog 131 #[.func (.yield l) #[] #[],.pointer (some ⟨b,o,none⟩)] W fun e W'=>(∃ v,e=.returned v)∧J m W':=by
 refine callsIn_of_wp Tryz.func131 rfl zt ?_ rfl
 simp only [Tryz.ntmps131,List.size_toArray,List.length_cons,List.length_nil,Nat.reduceAdd,Nat.reduceSub,Array.replicate_succ,Array.replicate_zero,List.push_toArray,List.append_toArray,List.nil_append,List.cons_append]
 have hc0:=hc 0 W h0
 have hmb:m≤9223372036854775807:=by unfold maxLen at hm; omega
 gi_wp2
 gi_loopw [3] (fun i wr=>∃ k:Nat,k≤m∧i=.int .i64 ((m:Int) - 1 - k)∧J k wr) (fun i _=>(intOf i+1).toNat)
 case atStart=>exact ⟨0,Nat.zero_le _,by simp,h0⟩
 case round =>
  obtain ⟨k,hk,rfl,hJs⟩:=hrel
  have hck:=hc k wr hJs
  by_cases hlt:k<m
  ·have e1:(m:Int) - 1 - k=((m - 1 - k:Nat):Int):=by omega
   obtain ⟨fn,tmps,assign,body,hy,hR⟩:=hY k wr hlt hJs
   have hcx:=hr k wr hJs (m - 1 - k) (by omega)
   have hA':=hA (by omega)
   subst hA'
   rw [e1]
   gi_wp2
   refine hR.mono ?_
   rintro e W3 ⟨rfl,hJ3⟩
   gi_wp2
   go_roundw
   case rel=>exact ⟨k+1,by omega,by congr 1; omega,hJ3⟩
   case measure=>simp [intOf]
  ·obtain rfl:k=m:=by omega
   gi_wp2
   go_end0
   exact ⟨⟨_,rfl⟩,hJs⟩
theorem backOK:BackOK B.P 131:=⟨Go.Proofs.enters_of Tryz.func131 (by kernel_rfl) rfl,back_in⟩
theorem c_Backward (m:Nat) (z:Nat→Int):ACallIs B.P 79 [.ro 1 m fun i=>[.i64 (z i)]] (.fn 131 [.ptr [.ro 1 m fun i=>[.i64 (z i)]]]):=by
 refine ACallIs.enter B _ _ Tryz.func79 rfl rfl Tryz.ntmps79 Tryz.results79 rfl fun _=>?_
 repeat (first|apply zq|apply zb|apply zk)
 apply zr;intro _
 refine AWp.freezeObj 1 rfl rfl ?_
 repeat (first|apply zq|apply zb|apply zk)
 apply zr;intro _
 refine AWp.ret ⟨Or.inl rfl,rfl,?_⟩
 intro _
 rfl
end Go.Proofs.YtbmccmbgnkbmiaaGreat

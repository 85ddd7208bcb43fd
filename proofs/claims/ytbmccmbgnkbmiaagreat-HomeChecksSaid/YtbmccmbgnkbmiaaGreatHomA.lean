/- Homes: what comes in; covering as the program does it and as the document says it are alike. Condition: spans one behind the other. -/
import Derived.Test.YtbmccmbgnkbmiaaGreatMch
set_option linter.unusedVariables false
set_option linter.unusedSimpArgs false
namespace Go.Proofs.YtbmccmbgnkbmiaaGreat
open Go Go.Abs Go.RowKit
structure Hom where
 (From To:Int)
 (P:Plc)
deriving DecidableEq,Inhabited
@[reducible] def Hom.cells (h:Hom):List AV:=[.i64 h.From,.i64 h.To,.i64 h.P.Kind,.i64 h.P.Class,.i64 h.P.N]
@[reducible] def Hom.av (h:Hom):AV:=.agg h.cells
def til (seam:Int→Bool) (s:Int×Int):Int→List Hom→Option (List Hom)
 | a,[]=>if a<s.2 then none else some []
 | a,h::r=>if a<s.2 then (if (h.From=a∧a<h.To∧h.To≤s.2)∧(a=s.1∨seam a=true) then til seam s h.To r else none) else some (h::r)
def cov (seam:Int→Bool):List (Int×Int)→List Hom→Bool
 | [],H=>H.isEmpty
 | s::S,H=>match til seam s s.1 H with
  | none=>false
  | some r=>cov seam S r
def srtH:Int→List Hom→Prop
 | _,[]=>True
 | a,h::r=>a≤h.From∧h.From<h.To∧srtH h.To r
def srtS:Int→List (Int×Int)→Prop
 | _,[]=>True
 | a,s::r=>a≤s.1∧s.1≤s.2∧srtS s.2 r
def sumH:List Hom→Int
 | []=>0
 | h::r=>h.To - h.From+sumH r
def sumS:List (Int×Int)→Int
 | []=>0
 | s::r=>s.2 - s.1+sumS r
theorem srtH_ge:∀ {H:List Hom} {a:Int},srtH a H→∀ h,h∈H→a≤h.From∧h.From<h.To
 | [],_,_,h,hm=>absurd hm List.not_mem_nil
 | x::r,a,hs,h,hm=>by
  obtain ⟨h1,h2,h3⟩:=hs
  rcases List.mem_cons.1 hm with rfl|hm
  ·exact ⟨h1,h2⟩
  ·have:=srtH_ge h3 h hm
   exact ⟨by omega,this.2⟩
theorem srtS_ge:∀ {S:List (Int×Int)} {a:Int},srtS a S→∀ s,s∈S→a≤s.1∧s.1≤s.2
 | [],_,_,h,hm=>absurd hm List.not_mem_nil
 | x::r,a,hs,h,hm=>by
  obtain ⟨h1,h2,h3⟩:=hs
  rcases List.mem_cons.1 hm with rfl|hm
  ·exact ⟨h1,h2⟩
  ·have:=srtS_ge h3 h hm
   exact ⟨by omega,this.2⟩
theorem srtH_lo {H:List Hom} {a b:Int} (h:srtH a H) (hb:∀ s,s∈H→b≤s.From):srtH b H:=by
 cases H with
 | nil=>trivial
 | cons s r=>exact ⟨hb s (List.mem_cons_self ..),h.2⟩
theorem sumS_pos:∀ {S:List (Int×Int)} {a:Int},srtS a S→0≤sumS S
 | [],_,_=>Int.le_refl _
 | x::r,a,hs=>by
  have:=sumS_pos hs.2.2
  have:=hs.2.1
  unfold sumS; omega
def InS (S:List (Int×Int)) (h:Hom):Prop:=∃ s,s∈S∧s.1≤h.From∧h.To≤s.2
theorem inS_rest {s:Int×Int} {S:List (Int×Int)} {H:List Hom} {h:Hom} {r:List Hom} (hH:H=h::r) (hs:srtH h.From H) (hi:∀ x,x∈H→InS (s::S) x) (hh:s.2≤h.From):∀ x,x∈H→InS S x:=by
 intro x hx
 obtain ⟨t,ht,h1,h2⟩:=hi x hx
 have:=srtH_ge hs x hx
 rcases List.mem_cons.1 ht with rfl|ht
 ·omega
 ·exact ⟨t,ht,h1,h2⟩
theorem sum_le:∀ {H:List Hom} {S:List (Int×Int)} {a b:Int},srtH a H→srtS b S→(∀ x,x∈H→InS S x)→sumH H≤sumS S
 | [],S,_,_,_,hS,_=>sumS_pos hS
 | h::r,[],_,_,_,_,hi=>by
  obtain ⟨s,hs,_⟩:=hi h (List.mem_cons_self ..)
  exact absurd hs List.not_mem_nil
 | h :: r,s::S,a,b,hH,hS,hi=>by
  obtain ⟨t,ht,h1,h2⟩:=hi h (List.mem_cons_self ..)
  have hp:=hH.2.1
  rcases List.mem_cons.1 ht with rfl|ht
  ·have:sumH r≤sumS ((h.To,t.2)::S):=sum_le hH.2.2 (b:=h.To) ⟨Int.le_refl _,h2,hS.2.2⟩ fun x hx=>by
    obtain ⟨u,hu,h3,h4⟩:=hi x (List.mem_cons_of_mem _ hx)
    rcases List.mem_cons.1 hu with rfl|hu
    ·exact ⟨(h.To,u.2),List.mem_cons_self ..,(srtH_ge hH.2.2 x hx).1,h4⟩
    ·exact ⟨u,List.mem_cons_of_mem _ hu,h3,h4⟩
   unfold sumH
   unfold sumS at this ⊢
   simp only at this
   omega
  ·have h5:=(srtS_ge hS.2.2 t ht).1
   have:sumH (h::r)≤sumS S:=sum_le hH hS.2.2 (inS_rest rfl ⟨Int.le_refl _,hH.2⟩ hi (by omega))
   have h6:=hS.2.1
   show _≤s.2 - s.1+sumS S
   omega
termination_by H S=>H.length+S.length
theorem cov_of (seam:Int→Bool) (ok:Int→Prop):∀ {H:List Hom} {S:List (Int×Int)} {s:Int×Int} {a:Int},srtH a H→s.1≤a→a≤s.2→srtS s.2 S→(∀ x,x∈H→InS ((a,s.2)::S) x)→(∀ x,x∈H→ok x.From) →
  (∀ t,t∈s::S→∀ p,t.1<p→p<t.2→ok p→seam p=true)→sumH H=s.2 - a+sumS S→(match til seam s a H with|none=>false|some r=>cov seam S r)=true
 | [],S,s,a,hH,h1,h2,hS,hi,ho,hk,he=>by
  have hp:=sumS_pos hS
  have he:0=s.2 - a+sumS S:=he
  have e:til seam s a []=some []:=if_neg (by omega)
  rw [e]
  show cov seam S []=true
  cases S with
  | nil=>rfl
  | cons t S =>
   obtain ⟨g1,g2,g3⟩:=hS
   exact cov_of seam ok (H:=[]) (S:=S) (s:=t) (a:=t.1) zt (Int.le_refl _) g2 g3 (fun x hx=>absurd hx List.not_mem_nil) (fun x hx=>absurd hx List.not_mem_nil) (fun u hu=>hk u (List.mem_cons_of_mem _ hu)) (by
    have hp:=sumS_pos g3
    unfold sumS at he
    show 0=_
    omega)
 | h :: r,S,s,a,hH,h1,h2,hS,hi,ho,hk,he=>by
  have g1:=hH.1
  have g2:=hH.2.1
  have hw:srtH h.From (h::r):=⟨Int.le_refl _,hH.2⟩
  obtain ⟨t,ht,i1,i2⟩:=hi h (List.mem_cons_self ..)
  by_cases hl:a<s.2
  ·have hin:h.From<s.2:=Int.lt_of_not_ge fun hc=>by
    have:=sum_le hw hS (inS_rest (s:=(a,s.2)) rfl hw hi hc)
    omega
   have hto:h.To≤s.2:=by
    rcases List.mem_cons.1 ht with rfl|ht
    ·exact i2
    ·have:=(srtS_ge hS t ht).1
     omega
   have heq:h.From=a:=Int.le_antisymm (Int.le_of_not_gt fun hc=>by
    have:sumH (h::r)≤sumS ((h.From,s.2)::S):=sum_le hw (b:=h.From) ⟨Int.le_refl _,by omega,hS⟩ fun x hx=>by
     obtain ⟨u,hu,h3,h4⟩:=hi x hx
     rcases List.mem_cons.1 hu with rfl|hu
     ·exact ⟨(h.From,s.2),List.mem_cons_self ..,(srtH_ge hw x hx).1,h4⟩
     ·exact ⟨u,List.mem_cons_of_mem _ hu,h3,h4⟩
    unfold sumS at this
    simp only at this
    omega) g1
   have hsm:a=s.1∨seam a=true:=by
    by_cases e:a=s.1
    ·exact .inl e
    ·exact .inr (hk s (List.mem_cons_self ..) a (by omega) hl (heq▸ho h (List.mem_cons_self ..)))
   have e:til seam s a (h::r)=til seam s h.To r:=by
    show (if a<s.2 then _ else _)=_
    rw [if_pos hl,if_pos ⟨⟨heq,by omega,hto⟩,hsm⟩]
   rw [e]
   exact cov_of seam ok hH.2.2 (by omega) hto hS (fun x hx=>by
    obtain ⟨u,hu,h3,h4⟩:=hi x (List.mem_cons_of_mem _ hx)
    rcases List.mem_cons.1 hu with rfl|hu
    ·exact ⟨(h.To,s.2),List.mem_cons_self ..,(srtH_ge hH.2.2 x hx).1,h4⟩
    ·exact ⟨u,List.mem_cons_of_mem _ hu,h3,h4⟩) (fun x hx=>ho x (List.mem_cons_of_mem _ hx)) hk (by unfold sumH at he; omega)
  ·have e:til seam s a (h::r)=some (h::r):=if_neg hl
   rw [e]
   have hi2:=inS_rest (s:=(a,s.2)) rfl hw hi (show s.2≤h.From by omega)
   cases S with
   | nil =>
    obtain ⟨u,hu,_⟩:=hi2 h (List.mem_cons_self ..)
    exact absurd hu List.not_mem_nil
   | cons t S =>
    obtain ⟨k1,k2,k3⟩:=hS
    have hlo:srtH t.1 (h::r):=srtH_lo hH fun x hx=>by
     obtain ⟨u,hu,h3,_⟩:=hi2 x hx
     rcases List.mem_cons.1 hu with rfl|hu
     ·exact h3
     ·have:=(srtS_ge k3 u hu).1
      omega
    exact cov_of seam ok hlo (Int.le_refl _) k2 k3 hi2 ho (fun u hu=>hk u (List.mem_cons_of_mem _ hu)) (by unfold sumS at he; omega)
termination_by H S=>H.length+S.length
theorem srtH_app:∀ {A B:List Hom} {a b:Int},srtH a A→(∀ x,x∈A→x.To≤b)→a≤b→srtH b B→srtH a (A++B)
 | [],B,a,b,_,_,hb,h2=>srtH_lo h2 fun x hx=>by have:=(srtH_ge h2 x hx).1; omega
 | h::r,B,a,b,h1,ha,hb,h2=>⟨h1.1,h1.2.1,srtH_app h1.2.2 (fun x hx=>ha x (List.mem_cons_of_mem _ hx)) (ha h (List.mem_cons_self ..)) h2⟩
theorem sumH_app:∀ {A B:List Hom},sumH (A++B)=sumH A+sumH B
 | [],B=>by show sumH B=0+sumH B; omega
 | h::r,B=>by
  show h.To - h.From+sumH (r++B)=h.To - h.From+sumH r+sumH B
  rw [sumH_app]; omega
theorem til_some {seam:Int→Bool} {s:Int×Int}:∀ {H:List Hom} {a:Int} {r:List Hom},til seam s a H=some r→s.1≤a→a≤s.2→∃ A,H=A++r∧srtH a A∧(∀ x,x∈A→s.1≤x.From∧x.To≤s.2∧(x.From=s.1∨seam x.From=true))∧sumH A=s.2 - a
 | [],a,r,h,h1,h2=>by
  unfold til at h
  split at h
  ·cases h
  ·cases h
   exact ⟨[],rfl,zt,fun x hx=>absurd hx List.not_mem_nil,by show (0:Int)=_; omega⟩
 | x :: H,a,r,h,h1,h2=>by
  unfold til at h
  split at h
  ·split at h
   ·rename_i hl hc
    obtain ⟨A,e,g1,g2,g3⟩:=til_some h (by omega) hc.1.2.2
    refine ⟨x::A,by rw [e]; rfl,⟨by omega,by omega,g1⟩,fun y hy=>?_,by show x.To - x.From+sumH A=_; omega⟩
    rcases List.mem_cons.1 hy with rfl|hy
    ·exact ⟨by omega,hc.1.2.2,by rw [hc.1.1]; exact hc.2⟩
    ·exact g2 y hy
   ·cases h
  ·cases h
   exact ⟨[],rfl,zt,fun x hx=>absurd hx List.not_mem_nil,by show (0:Int)=_; omega⟩
theorem of_cov {seam:Int→Bool}:∀ {S:List (Int×Int)} {H:List Hom} {a:Int},cov seam S H=true→srtS a S→srtH a H∧(∀ x,x∈H→∃ s,s∈S∧s.1≤x.From∧x.To≤s.2∧(x.From=s.1∨seam x.From=true))∧sumH H=sumS S
 | [],H,a,h,_=>by
  cases H with
  | nil=>exact ⟨zt,fun x hx=>absurd hx List.not_mem_nil,rfl⟩
  | cons x r=>cases h
 | s :: S,H,a,h,hS=>by
  unfold cov at h
  split at h
  ·cases h
  rename_i r hr
  obtain ⟨A,e,g1,g2,g3⟩:=til_some hr (Int.le_refl _) hS.2.1
  obtain ⟨k1,k2,k3⟩:=of_cov h hS.2.2
  refine ⟨?_,fun x hx=>?_,?_⟩
  ·rw [e]
   have h5:=srtH_app g1 (fun x hx=>(g2 x hx).2.1) hS.2.1 k1
   exact srtH_lo h5 fun x hx=>by have:=(srtH_ge h5 x hx).1; have:=hS.1; omega
  ·rw [e] at hx
   rcases List.mem_append.1 hx with hx|hx
   ·exact ⟨s,List.mem_cons_self ..,g2 x hx⟩
   ·obtain ⟨t,ht,h6⟩:=k2 x hx
    exact ⟨t,List.mem_cons_of_mem _ ht,h6⟩
  ·rw [e,sumH_app,g3,k3]; rfl
end Go.Proofs.YtbmccmbgnkbmiaaGreat

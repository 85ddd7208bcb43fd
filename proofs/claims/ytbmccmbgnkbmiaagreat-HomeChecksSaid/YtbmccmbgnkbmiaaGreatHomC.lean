/- What is wrong with homes. Condition: none. -/
import Derived.Test.YtbmccmbgnkbmiaaGreatHomB
import Derived.Test.YtbmccmbgnkbmiaaGreatClm
set_option linter.unusedVariables false
set_option linter.unusedSimpArgs false
namespace Go.Proofs.YtbmccmbgnkbmiaaGreat
open Go Go.Abs Go.RowKit
@[reducible] def homV (H:List Hom):AV:=roL 5 Hom.cells H
@[reducible] def homsV (L:List (List Hom)):AV:=roL 1 (fun H=>[homV H]) L
def smK (f:Fun) (p:Int) (b:Nat):Bool:=decide (p=startF f.Blocks b)||(inB (p - startF f.Blocks b) 1 (2 * ((blkA f b).Instrs.length:Int))&&decide ((p - startF f.Blocks b) % 2=1))
def smB (f:Fun) (p:Int):Bool:=anyB (smK f p) f.Blocks.length
@[reducible] def smN (f:Fun) (p:Int):Bool:=smB f (p.toNat:Nat)
def plB (f:Fun) (m:Mch) (fr:Int) (v:Nat) (p:Plc):Bool:=placeF m fr p&&!((p.Kind==1)&&(p.Class != cls f v))
@[reducible] def hAt (L:List (List Hom)) (v i:Nat):Hom:=(L.getD v default).getD i default
def meB (a b c d:Int):Bool:=decide (a<d)&&decide (c<b)
@[reducible] def twH (g h:Hom):Bool:=(g.P==h.P)&&meB g.From g.To h.From h.To
def twB (L:List (List Hom)) (v w i k:Nat):Bool:=twH (hAt L w k) (hAt L v i)
theorem anyB_ex {p:Nat→Bool} {n:Nat} (h:anyB p n=true):∃ i,i<n∧p i=true:=by
 unfold anyB at h
 obtain ⟨i,hi,hp⟩:=List.any_eq_true.1 h
 exact ⟨i,List.mem_range.1 hi,hp⟩
def TwP (L:List (List Hom)):Prop:=∃ v w i k,v<L.length∧w<v∧i<(L.getD v default).length∧k<(L.getD w default).length∧twB L v w i k=true
def clB2 (C:List C5) (L:List (List Hom)) (c v i:Nat):Bool:=((v:Int) != (C.getD c default).2.2.2.2)&&(((hAt L v i).P==⟨1,(C.getD c default).1,(C.getD c default).2.1⟩)&&meB (hAt L v i).From (hAt L v i).To (C.getD c default).2.2.1 (C.getD c default).2.2.2.1)
def ClP (C:List C5) (L:List (List Hom)):Prop:=∃ c v i,c<C.length∧v<L.length∧i<(L.getD v default).length∧clB2 C L c v i=true
noncomputable def hmV (f:Fun) (m:Mch) (L:List (List Hom)) (fr:Int) (v:Nat):Int :=
 if cov (smN f) (spL f v f.Blocks.length) (L.getD v default)=false then 4
 else if anyB (fun i=>!plB f m fr v (hAt L v i).P) (L.getD v default).length=true then 2 else 0
open Classical in
noncomputable def hmF (f:Fun) (m:Mch) (L:List (List Hom)) (fr:Int):Int :=
 if flwF f m≠0 then flwF f m
 else if fr<0∨500≤fr then 1
 else if L.length≠f.Values.length then 4
 else if firstF (hmV f m L fr) L.length≠0 then firstF (hmV f m L fr) L.length
 else if TwP L then 7
 else if ClP (insA (clB f f.Blocks.length)) L then 12 else 0
section
variable {f : Fun} {m : Mch} {L : List (List Hom)} {fr : Int}
theorem hmF_1 (h:flwF f m≠0):hmF f m L fr=flwF f m:=if_pos h
theorem hmF_2 (h:flwF f m=0) (h2:fr<0∨500≤fr):hmF f m L fr=1:=by unfold hmF; rw [if_neg (fun g=>g h),if_pos h2]
theorem hmF_3 (h:flwF f m=0) (h2:¬ (fr<0∨500≤fr)) (h3:L.length≠f.Values.length):hmF f m L fr=4:=by unfold hmF; rw [if_neg (fun g=>g h),if_neg h2,if_pos h3]
theorem hmF_4 (h:flwF f m=0) (h2:¬ (fr<0∨500≤fr)) (h3:L.length=f.Values.length) {v:Nat} (hv:v<L.length) (hg:∀ j,j<v→hmV f m L fr j=0) (hn:hmV f m L fr v≠0):hmF f m L fr=hmV f m L fr v:=by
 have e:=firstF_hit hv hg hn
 unfold hmF; rw [if_neg (fun g=>g h),if_neg h2,if_neg (fun g=>g h3),if_pos (by rw [e]; exact hn),e]
theorem hmF_5 (h:flwF f m=0) (h2:¬ (fr<0∨500≤fr)) (h3:L.length=f.Values.length) (hg:∀ j,j<L.length→hmV f m L fr j=0) (h4:TwP L):hmF f m L fr=7:=by
 unfold hmF; rw [if_neg (fun g=>g h),if_neg h2,if_neg (fun g=>g h3),if_neg (fun g=>g (firstF_none hg)),if_pos h4]
theorem hmF_6 (h:flwF f m=0) (h2:¬ (fr<0∨500≤fr)) (h3:L.length=f.Values.length) (hg:∀ j,j<L.length→hmV f m L fr j=0) (h4:¬ TwP L) (h5:ClP (insA (clB f f.Blocks.length)) L):hmF f m L fr=12:=by
 unfold hmF; rw [if_neg (fun g=>g h),if_neg h2,if_neg (fun g=>g h3),if_neg (fun g=>g (firstF_none hg)),if_neg h4,if_pos h5]
theorem hmF_7 (h:flwF f m=0) (h2:¬ (fr<0∨500≤fr)) (h3:L.length=f.Values.length) (hg:∀ j,j<L.length→hmV f m L fr j=0) (h4:¬ TwP L) (h5:¬ ClP (insA (clB f f.Blocks.length)) L):hmF f m L fr=0:=by
 unfold hmF; rw [if_neg (fun g=>g h),if_neg h2,if_neg (fun g=>g h3),if_neg (fun g=>g (firstF_none hg)),if_neg h4,if_neg h5]
theorem hmV_4 {v:Nat} (h:cov (smN f) (spL f v f.Blocks.length) (L.getD v default)=false):hmV f m L fr v=4:=if_pos h
theorem hmV_2 {v i:Nat} (h:cov (smN f) (spL f v f.Blocks.length) (L.getD v default)=true) (hi:i<(L.getD v default).length) (h2:plB f m fr v (hAt L v i).P=false):hmV f m L fr v=2:=by
 unfold hmV; rw [if_neg (by rw [h]; simp),if_pos (anyB_hit hi (by show (!_)=true; rw [h2]; rfl))]
theorem hmV_0 {v:Nat} (h:cov (smN f) (spL f v f.Blocks.length) (L.getD v default)=true) (h2:∀ i,i<(L.getD v default).length→plB f m fr v (hAt L v i).P=true):hmV f m L fr v=0:=by
 unfold hmV; rw [if_neg (by rw [h]; simp),if_neg (by rw [anyB_none (fun j hj=>by show (!_)=false; rw [h2 j hj]; rfl)]; simp)]
end
end Go.Proofs.YtbmccmbgnkbmiaaGreat

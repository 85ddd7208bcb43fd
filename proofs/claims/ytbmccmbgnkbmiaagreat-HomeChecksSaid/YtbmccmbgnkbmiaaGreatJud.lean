/- judge.Known: what is surely known; the contracts of judge's walk. Condition: an output that may be. -/
import Derived.Test.YtbmccmbgnkbmiaaGreatMru
import Derived.Test.YtbmccmbgnkbmiaaGreatBit
set_option linter.unusedVariables false
set_option linter.unusedSimpArgs false
namespace Go.Proofs.YtbmccmbgnkbmiaaGreat
open Go Go.Abs Go.RowKit Go.Abs.Gra
abbrev Knw:=Nat→Nat→Bool
def setK (K:Knw) (c:Nat) (R:Nat→Bool):Knw:=fun j=>if j=c then R else K j
def mvK (e:Edt) (K:Knw):Nat→Knw
 | 0=>K
 | k+1=>setK (mvK e K k) (celF (e.Moves.getD k default).To) (mvK e K k (celF (e.Moves.getD k default).From))
def edK (l:List Edt) (b a:Nat) (K:Knw):Nat→Knw
 | 0=>K
 | i+1=>if (l.getD i default).Block=b∧(l.getD i default).At=a then mvK (l.getD i default) (edK l b a K i) (l.getD i default).Moves.length else edK l b a K i
theorem edK_yes {l:List Edt} {b a:Nat} {K:Knw} {i:Nat} (h:(l.getD i default).Block=b∧(l.getD i default).At=a):edK l b a K (i+1)=mvK (l.getD i default) (edK l b a K i) (l.getD i default).Moves.length:=if_pos h
theorem edK_no {l:List Edt} {b a:Nat} {K:Knw} {i:Nat} (h:¬ ((l.getD i default).Block=b∧(l.getD i default).At=a)):edK l b a K (i+1)=edK l b a K i:=if_neg h
def dwK (x:Ins) (p:List Plc) (K:Knw):Nat→Knw
 | 0=>K
 | k+1=>if (x.Operands.getD k default).Kind=2∧(x.Operands.getD k default).Late=false then setK (dwK x p K k) (celF (p.getD k default)) nonS else dwK x p K k
theorem dwK_yes {x:Ins} {p:List Plc} {K:Knw} {k:Nat} (h:(x.Operands.getD k default).Kind=2∧(x.Operands.getD k default).Late=false):dwK x p K (k+1)=setK (dwK x p K k) (celF (p.getD k default)) nonS:=if_pos h
theorem dwK_no {x:Ins} {p:List Plc} {K:Knw} {k:Nat} (h:¬ ((x.Operands.getD k default).Kind=2∧(x.Operands.getD k default).Late=false)):dwK x p K (k+1)=dwK x p K k:=if_neg h
@[reducible] def celR (r:Rg):Nat:=11 * r.Class.toNat+r.N.toNat
def spK (l:List Rg) (K:Knw):Nat→Knw
 | 0=>K
 | k+1=>setK (spK l K k) (celR (l.getD k default)) nonS
def mkK1 (K:Knw) (v c:Nat):Knw:=setK (fun j=>dropS (K j) v) c (putS nonS v)
def dfK (x:Ins) (p:List Plc) (K:Knw):Nat→Knw
 | 0=>K
 | k+1=>if (x.Operands.getD k default).Kind=2 then mkK1 (dfK x p K k) (x.Operands.getD k default).Value.toNat (celF (p.getD k default)) else dfK x p K k
theorem dfK_yes {x:Ins} {p:List Plc} {K:Knw} {k:Nat} (h:(x.Operands.getD k default).Kind=2):dfK x p K (k+1)=mkK1 (dfK x p K k) (x.Operands.getD k default).Value.toNat (celF (p.getD k default)):=if_pos h
theorem dfK_no {x:Ins} {p:List Plc} {K:Knw} {k:Nat} (h:¬ (x.Operands.getD k default).Kind=2):dfK x p K (k+1)=dfK x p K k:=if_neg h
section
variable (f : Fun) (o : Oup)
@[reducible] def edKA (b a:Nat) (K:Knw):Knw:=edK o.Edits b a K o.Edits.length
@[reducible] def spKA (b a:Nat) (K:Knw):Knw:=spK (insAt f b a).Spoils (dwK (insAt f b a) (plAt o b a) K (insAt f b a).Operands.length) (insAt f b a).Spoils.length
@[reducible] def inKA (b a:Nat) (K:Knw):Knw:=dfK (insAt f b a) (plAt o b a) (spKA f o b a K) (insAt f b a).Operands.length
def thI (b:Nat) (K:Knw):Nat→Knw
 | 0=>K
 | a+1=>inKA f o b a (edKA o b a (thI b K a))
@[reducible] def thK (b:Nat) (K:Knw):Knw:=edKA o b (f.Blocks.getD b default).Instrs.length (thI f o b K (f.Blocks.getD b default).Instrs.length)
def drP (ps:List Int) (R:Nat→Bool):Nat→Nat→Bool
 | 0=>R
 | k+1=>dropS (drP ps R k) (ps.getD k default).toNat
def ptP (ps az:List Int) (R0 R:Nat→Bool):Nat→Nat→Bool
 | 0=>R
 | k+1=>if R0 (az.getD k default).toNat=true then putS (ptP ps az R0 R k) (ps.getD k default).toNat else ptP ps az R0 R k
theorem ptP_yes {ps az:List Int} {R0 R:Nat→Bool} {k:Nat} (h:R0 (az.getD k default).toNat=true):ptP ps az R0 R (k+1)=putS (ptP ps az R0 R k) (ps.getD k default).toNat:=if_pos h
theorem ptP_no {ps az:List Int} {R0 R:Nat→Bool} {k:Nat} (h:¬ R0 (az.getD k default).toNat=true):ptP ps az R0 R (k+1)=ptP ps az R0 R k:=if_neg h
@[reducible] def alR (ps az:List Int) (R:Nat→Bool):Nat→Bool:=ptP ps az R (drP ps R ps.length) ps.length
@[reducible] def alK (e:Edg) (K:Knw):Knw:=fun c=>alR (edgP f e) e.Args (K c)
end
theorem drP_iff {ps:List Int} {R:Nat→Bool} {v:Nat}:∀ k,k≤ps.length→(drP ps R k v=true↔R v=true∧∀ j,j<k→(ps.getD j default).toNat≠v)
 | 0,_=>by simp [drP]
 | k+1,hk=>by
  have ih:=drP_iff (ps:=ps) (R:=R) (v:=v) k (by omega)
  show (drP ps R k v&&!decide (v=(ps.getD k default).toNat))=true↔_
  rw [Bool.and_eq_true,ih]
  simp only [Bool.not_eq_true',decide_eq_false_iff_not]
  constructor
  ·rintro ⟨⟨h1,h2⟩,h3⟩
   refine ⟨h1,fun j hj=>?_⟩
   by_cases e:j=k
   ·subst e; exact fun h=>h3 h.symm
   ·exact h2 j (by omega)
  ·rintro ⟨h1,h2⟩
   exact ⟨⟨h1,fun j hj=>h2 j (by omega)⟩,fun h=>h2 k (by omega) h.symm⟩
theorem ptP_iff {ps az:List Int} {R0 R:Nat→Bool} {v:Nat}:∀ k,ptP ps az R0 R k v=true↔R v=true∨∃ j,j<k∧(ps.getD j default).toNat=v∧R0 (az.getD j default).toNat=true
 | 0=>by simp [ptP]
 | k + 1=>by
  have ih:=ptP_iff (ps:=ps) (az:=az) (R0:=R0) (R:=R) (v:=v) k
  by_cases h:R0 (az.getD k default).toNat=true
  ·rw [ptP_yes h]
   show (ptP ps az R0 R k v||decide (v=(ps.getD k default).toNat))=true↔_
   rw [Bool.or_eq_true,ih,decide_eq_true_iff]
   constructor
   ·rintro ((h1|⟨j,h1,h2⟩)|h1)
    ·exact .inl h1
    ·exact .inr ⟨j,by omega,h2⟩
    ·exact .inr ⟨k,by omega,h1.symm,h⟩
   ·rintro (h1|⟨j,h1,h2,h3⟩)
    ·exact .inl (.inl h1)
    ·by_cases e:j=k
     ·subst e; exact .inr h2.symm
     ·exact .inl (.inr ⟨j,by omega,h2,h3⟩)
  ·rw [ptP_no h,ih]
   constructor
   ·rintro (h1|⟨j,h1,h2⟩)
    ·exact .inl h1
    ·exact .inr ⟨j,by omega,h2⟩
   ·rintro (h1|⟨j,h1,h2,h3⟩)
    ·exact .inl h1
    ·by_cases e:j=k
     ·subst e; exact absurd h3 h
     ·exact .inr ⟨j,by omega,h2,h3⟩
theorem alR_iff {ps az:List Int} {R:Nat→Bool} {v:Nat}:alR ps az R v=true↔(R v=true∧∀ j,j<ps.length→(ps.getD j default).toNat≠v)∨∃ j,j<ps.length∧(ps.getD j default).toNat=v∧R (az.getD j default).toNat=true:=by
 show ptP _ _ _ _ _ v=true↔_
 rw [ptP_iff,drP_iff _ (Nat.le_refl _)]
def Le (N V:Nat) (K L:Knw):Prop:=∀ c v,c<N→v<V→K c v=true→L c v=true
theorem Le.refl {N V:Nat} {K:Knw}:Le N V K K:=fun _ _ _ _ h=>h
theorem Le.trans {N V:Nat} {K L M:Knw} (h:Le N V K L) (g:Le N V L M):Le N V K M:=fun c v hc hv hk=>g c v hc hv (h c v hc hv hk)
theorem setK_le {N V:Nat} {K L:Knw} (h:Le N V K L) {c:Nat} {R S:Nat→Bool} (hr:∀ v,v<V→R v=true→S v=true):Le N V (setK K c R) (setK L c S):=by
 intro j v hj hv hk
 unfold setK at *
 by_cases e:j=c
 ·rw [if_pos e] at *; exact hr v hv hk
 ·rw [if_neg e] at *; exact h j v hj hv hk
section
variable {N V : Nat} {K L : Knw}
theorem mvK_le {e:Edt} (h:Le N V K L) (hp:∀ k,k<e.Moves.length→celF (e.Moves.getD k default).From<N):∀ k,k≤e.Moves.length→Le N V (mvK e K k) (mvK e L k)
 | 0,_=>h
 | k+1,hk=>by
  have ih:=mvK_le h hp k (by omega)
  exact setK_le ih fun v hv=>ih _ v (hp k (by omega)) hv
theorem edK_le {l:List Edt} {b a:Nat} (h:Le N V K L) (hp:∀ i k,i<l.length→k<(l.getD i default).Moves.length→celF ((l.getD i default).Moves.getD k default).From<N):∀ i,i≤l.length→Le N V (edK l b a K i) (edK l b a L i)
 | 0,_=>h
 | i+1,hi=>by
  have ih:=edK_le (b:=b) (a:=a) h hp i (by omega)
  by_cases g:(l.getD i default).Block=b∧(l.getD i default).At=a
  ·rw [edK_yes g,edK_yes g]; exact mvK_le ih (fun k hk=>hp i k (by omega) hk) _ (Nat.le_refl _)
  ·rw [edK_no g,edK_no g]; exact ih
theorem dwK_le {x:Ins} {p:List Plc} (h:Le N V K L):∀ k,Le N V (dwK x p K k) (dwK x p L k)
 | 0=>h
 | k+1=>by
  have ih:=dwK_le (x:=x) (p:=p) h k
  by_cases g:(x.Operands.getD k default).Kind=2∧(x.Operands.getD k default).Late=false
  ·rw [dwK_yes g,dwK_yes g]; exact setK_le ih fun v hv h=>h
  ·rw [dwK_no g,dwK_no g]; exact ih
theorem spK_le {l:List Rg} (h:Le N V K L):∀ k,Le N V (spK l K k) (spK l L k)
 | 0=>h
 | k+1=>setK_le (spK_le h k) fun v hv h=>h
theorem dfK_le {x:Ins} {p:List Plc} (h:Le N V K L):∀ k,Le N V (dfK x p K k) (dfK x p L k)
 | 0=>h
 | k+1=>by
  have ih:=dfK_le (x:=x) (p:=p) h k
  by_cases g:(x.Operands.getD k default).Kind=2
  ·rw [dfK_yes g,dfK_yes g]
   refine setK_le (fun c v hc hv hk=>?_) fun v hv h=>h
   simp only [dropS,Bool.and_eq_true] at hk ⊢
   exact ⟨ih c v hc hv hk.1,hk.2⟩
  ·rw [dfK_no g,dfK_no g]; exact ih
theorem alK_le {f:Fun} {e:Edg} (h:Le N V K L) (ha:∀ j,j<(edgP f e).length→(e.Args.getD j default).toNat<V):Le N V (alK f e K) (alK f e L):=by
 intro c v hc hv hk
 rw [alR_iff] at hk ⊢
 rcases hk with ⟨h1,h2⟩|⟨j,h1,h2,h3⟩
 ·exact .inl ⟨h c v hc hv h1,h2⟩
 ·exact .inr ⟨j,h1,h2,h _ _ hc (ha j h1) h3⟩
end
def Spt (V:Nat) (K:Knw):Prop:=∀ c v,V≤v→K c v=false
theorem setK_spt {V:Nat} {K:Knw} (h:Spt V K) {c:Nat} {R:Nat→Bool} (hr:∀ v,V≤v→R v=false):Spt V (setK K c R):=by
 intro j v hv
 unfold setK
 by_cases e:j=c
 ·rw [if_pos e]; exact hr v hv
 ·rw [if_neg e]; exact h j v hv
section
variable {V : Nat} {K : Knw}
theorem mvK_spt {e:Edt} (h:Spt V K):∀ k,Spt V (mvK e K k)
 | 0=>h
 | k+1=>setK_spt (mvK_spt h k) fun v hv=>mvK_spt h k _ v hv
theorem edK_spt {l:List Edt} {b a:Nat} (h:Spt V K):∀ i,Spt V (edK l b a K i)
 | 0=>h
 | i+1=>by
  by_cases g:(l.getD i default).Block=b∧(l.getD i default).At=a
  ·rw [edK_yes g]; exact mvK_spt (edK_spt h i) _
  ·rw [edK_no g]; exact edK_spt h i
theorem dwK_spt {x:Ins} {p:List Plc} (h:Spt V K):∀ k,Spt V (dwK x p K k)
 | 0=>h
 | k+1=>by
  by_cases g:(x.Operands.getD k default).Kind=2∧(x.Operands.getD k default).Late=false
  ·rw [dwK_yes g]; exact setK_spt (dwK_spt h k) fun v hv=>rfl
  ·rw [dwK_no g]; exact dwK_spt h k
theorem spK_spt {l:List Rg} (h:Spt V K):∀ k,Spt V (spK l K k)
 | 0=>h
 | k+1=>setK_spt (spK_spt h k) fun v hv=>rfl
theorem dfK_spt {x:Ins} {p:List Plc} (h:Spt V K) (hv:∀ j,j<x.Operands.length→(x.Operands.getD j default).Value.toNat<V):∀ k,k≤x.Operands.length→Spt V (dfK x p K k)
 | 0,_=>h
 | k+1,hk=>by
  have ih:=dfK_spt (p:=p) h hv k (by omega)
  by_cases g:(x.Operands.getD k default).Kind=2
  ·rw [dfK_yes g]
   refine setK_spt (fun c v hc=>by simp only [dropS,ih c v hc,Bool.false_and]) fun v h2=>?_
   have:=hv k (by omega)
   simp only [putS,nonS,Bool.false_or]
   exact decide_eq_false (by omega)
  ·rw [dfK_no g]; exact ih
theorem alK_spt {f:Fun} {e:Edg} (h:Spt V K) (hp:∀ j,j<(edgP f e).length→((edgP f e).getD j default).toNat<V):Spt V (alK f e K):=by
 intro c v hv
 refine Bool.eq_false_iff.2 fun hk=>?_
 rw [alR_iff] at hk
 rcases hk with ⟨h1,h2⟩|⟨j,h1,h2,h3⟩
 ·rw [h c v hv] at h1; cases h1
 ·have:=hp j h1; omega
end
section
variable {f : Fun} {m : Mch} {o : Oup} {fr : Nat}
theorem thI_le (hO:OutOk f m o fr) {b:Nat} (hb:b<f.Blocks.length) {V:Nat} {K L:Knw} (h:Le (22+fr) V K L):∀ a,a≤(f.Blocks.getD b default).Instrs.length→Le (22+fr) V (thI f o b K a) (thI f o b L a)
 | 0,_=>h
 | a+1,ha=>dfK_le (spK_le (dwK_le (edK_le (thI_le hO hb h a (by omega)) (fun i k hi hk=>(hO.mv i k hi hk).1.lt) _ (Nat.le_refl _)) _) _) _
theorem thK_le (hO:OutOk f m o fr) {b:Nat} (hb:b<f.Blocks.length) {V:Nat} {K L:Knw} (h:Le (22+fr) V K L):Le (22+fr) V (thK f o b K) (thK f o b L) :=
 edK_le (thI_le hO hb h _ (Nat.le_refl _)) (fun i k hi hk=>(hO.mv i k hi hk).1.lt) _ (Nat.le_refl _)
theorem opv_lt (hC:Chkd f) {b a:Nat} (hb:b<f.Blocks.length) (ha:a<(f.Blocks.getD b default).Instrs.length):∀ j,j<(insAt f b a).Operands.length→((insAt f b a).Operands.getD j default).Value.toNat<f.Values.length:=fun j hj=>by
 have h:=idx_ok (hC.opv b a j hb ha hj)
 show (((f.Blocks.getD b default).Instrs.getD a default).Operands.getD j default).Value.toNat<_
 omega
theorem thI_spt (hC:Chkd f) {b:Nat} (hb:b<f.Blocks.length) {K:Knw} (h:Spt f.Values.length K):∀ a,a≤(f.Blocks.getD b default).Instrs.length→Spt f.Values.length (thI f o b K a)
 | 0,_=>h
 | a+1,ha=>dfK_spt (spK_spt (dwK_spt (edK_spt (thI_spt hC hb h a (by omega)) _) _) _) (opv_lt hC hb (by omega)) _ (Nat.le_refl _)
theorem thK_spt (hC:Chkd f) {b:Nat} (hb:b<f.Blocks.length) {K:Knw} (h:Spt f.Values.length K):Spt f.Values.length (thK f o b K) :=
 edK_spt (thI_spt hC hb h _ (Nat.le_refl _)) _
end
structure Post (f:Fun) (o:Oup) (N:Nat) (A:Nat→Knw):Prop where
 none:∀ c v,c<N→v<f.Values.length→A 0 c v=false
 edge:∀ b k,b<f.Blocks.length→k<(f.Blocks.getD b default).Edges.length→Le N f.Values.length (A ((f.Blocks.getD b default).Edges.getD k default).Block.toNat) (alK f ((f.Blocks.getD b default).Edges.getD k default) (thK f o b (A b)))
noncomputable def sur (f:Fun) (o:Oup) (N:Nat) (b:Nat):Knw:=fun c v=>@decide (c<N∧v<f.Values.length∧∃ A,Post f o N A∧A b c v=true) (Classical.propDecidable _)
section
variable {f : Fun} {m : Mch} {o : Oup} {fr : Nat}
theorem sur_iff {N b c v:Nat}:sur f o N b c v=true↔c<N∧v<f.Values.length∧∃ A,Post f o N A∧A b c v=true:=by
 unfold sur; exact @decide_eq_true_iff _ (Classical.propDecidable _)
theorem sur_max {N:Nat} {A:Nat→Knw} (h:Post f o N A) (b:Nat):Le N f.Values.length (A b) (sur f o N b):=fun c v hc hv hk=>sur_iff.2 ⟨hc,hv,A,h,hk⟩
theorem sur_spt (N b:Nat):Spt f.Values.length (sur f o N b):=fun c v hv=>Bool.eq_false_iff.2 fun h=>by have:=(sur_iff.1 h).2.1; omega
theorem arg_lt (hC:Chkd f) {b k:Nat} (hb:b<f.Blocks.length) (hk:k<(f.Blocks.getD b default).Edges.length):∀ j,j<((f.Blocks.getD b default).Edges.getD k default).Args.length→(((f.Blocks.getD b default).Edges.getD k default).Args.getD j default).toNat<f.Values.length:=fun j hj=>by
 have h:=idx_ok (hC.argv b k j hb hk hj)
 omega
theorem sur_post (hO:OutOk f m o fr) (hl:∀ b k,b<f.Blocks.length→k<(f.Blocks.getD b default).Edges.length→(edgP f ((f.Blocks.getD b default).Edges.getD k default)).length=((f.Blocks.getD b default).Edges.getD k default).Args.length):Post f o (22+fr) (sur f o (22+fr)):=by
 have hC:=chkd_of hO.chk0
 refine ⟨fun c v hc hv=>Bool.eq_false_iff.2 fun h=>?_,fun b k hb hk c v hc hv h=>?_⟩
 ·obtain ⟨_,_,A,hA,h⟩:=sur_iff.1 h
  rw [hA.none c v hc hv] at h; cases h
 ·obtain ⟨_,_,A,hA,h⟩:=sur_iff.1 h
  exact alK_le (thK_le hO hb (sur_max hA b)) (fun j hj=>arg_lt hC hb hk j (by rw [← hl b k hb hk]; exact hj)) c v hc hv (hA.edge b k hb hk c v hc hv h)
theorem sur_eq {N:Nat} {A:Nat→Knw} (h:Post f o N A) {b:Nat} (hle:Le N f.Values.length (sur f o N b) (A b)) {c v:Nat} (hc:c<N) (hv:v<f.Values.length):A b c v=sur f o N b c v:=by
 cases e:A b c v with
 | true=>exact (sur_max h b c v hc hv e).symm
 | false =>
  refine (Bool.eq_false_iff.2 fun h2=>?_).symm
  rw [hle c v hc hv h2] at e; cases e
theorem sur_eqS {N:Nat} {A:Nat→Knw} (h:Post f o N A) {b:Nat} (hle:Le N f.Values.length (sur f o N b) (A b)) (hs:Spt f.Values.length (A b)) {c:Nat} (hc:c<N):A b c=sur f o N b c:=by
 funext v
 by_cases hv:v<f.Values.length
 ·exact sur_eq h hle hc hv
 ·rw [hs c v (by omega),sur_spt N b c v (by omega)]
theorem edgP_len (hk:chkF f m=0) {b k:Nat} (hb:b<f.Blocks.length) (hkk:k<(f.Blocks.getD b default).Edges.length):(edgP f ((f.Blocks.getD b default).Edges.getD k default)).length=((f.Blocks.getD b default).Edges.getD k default).Args.length:=by
 obtain ⟨h1,h2,h3,h4,h5⟩:=chkF_zero hk
 have hz:=(blkF_zero (firstF_zero h4 b hb)).2
 have he:edgF f ((f.Blocks.getD b default).Edges.getD k default)=0:=firstF_zero hz k hkk
 have:=edgF_zero he
 omega
end
def cnB (p:Nat→Bool):Nat→Nat
 | 0=>0
 | k+1=>cnB p k+(p k).toNat
theorem cnB_le {p q:Nat→Bool}:∀ {n:Nat},(∀ i,i<n→p i=true→q i=true)→cnB p n≤cnB q n
 | 0,_=>Nat.le_refl _
 | n+1,h=>by
  have:=cnB_le (n:=n) fun i hi=>h i (by omega)
  have h2:=h n (by omega)
  show _+_≤_+_
  cases hp:p n with
  | false=>simp; omega
  | true=>rw [h2 hp]; omega
theorem cnB_lt {p q:Nat→Bool}:∀ {n:Nat},(∀ i,i<n→p i=true→q i=true)→(∃ i,i<n∧p i=false∧q i=true)→cnB p n<cnB q n
 | 0,_,⟨i,hi,_⟩=>absurd hi (by omega)
 | n+1,h,⟨i,hi,h1,h2⟩=>by
  show _+_<_+_
  by_cases e:i=n
  ·subst e
   have:=cnB_le (n:=i) fun j hj=>h j (by omega)
   rw [h1,h2]; simp; omega
  ·have:=cnB_lt (n:=n) (fun j hj=>h j (by omega)) ⟨i,by omega,h1,h2⟩
   have h3:=h n (by omega)
   cases hp:p n with
   | false=>simp; omega
   | true=>rw [h3 hp]; omega
theorem cnB_max {p:Nat→Bool}:∀ {n:Nat},cnB p n≤n
 | 0=>Nat.le_refl _
 | n+1=>by
  have:=cnB_max (p:=p) (n:=n)
  show _+_≤_
  cases p n<;>simp<;>omega
@[reducible] def stR (W N k:Nat):HO:=.rows 176 1 N (fun c=>[.sl ⟨W,[c]⟩ k])
@[reducible] def stW (N k:Nat) (K:Knw):HO:=famU (inD N) k (fun ix=>K (ix.headD 0))
theorem setF_K {N c:Nat} {K:Knw} {R:Nat→Bool} {ix:List Nat} (h:inD N ix):setF (fun ix=>K (ix.headD 0)) [c] R ix=setK K c R (ix.headD 0):=by
 obtain ⟨j,hj,rfl⟩:=h
 unfold setF setK
 show (if [j]=[c] then R else K j)=(if j=c then R else K j)
 by_cases e:j=c
 ·subst e; rw [if_pos rfl,if_pos rfl]
 ·rw [if_neg (fun h=>e (by injection h)),if_neg e]
section
variable {x : Ins} {p : List Plc} {K K0 K2 : Knw} {B : Nat → Bool} {i q : Nat}
end
theorem kind_ok {f:Fun} {m:Mch} (h:chkF f m=0) {b a:Nat} (hb:b<f.Blocks.length) (ha:a<(f.Blocks.getD b default).Instrs.length):∀ q,q<(insAt f b a).Operands.length→((insAt f b a).Operands.getD q default).Kind=1∨((insAt f b a).Operands.getD q default).Kind=2:=fun q hq=>by
 obtain ⟨h1,h2,h3,h4,h5⟩:=chkF_zero h
 have hi:=(blkF_zero (firstF_zero h4 b hb)).1
 have hi2:insF f m (insAt f b a)=0:=firstF_zero hi a ha
 have g1:¬ ((insAt f b a).Op<0∨255<(insAt f b a).Op):=fun hn=>by rw [insF_op hn] at hi2; cases hi2
 have g2:firstF (opdG f m (insAt f b a)) (insAt f b a).Operands.length=0:=Classical.byContradiction fun hn=>by rw [insF_a g1 rfl hn] at hi2; exact hn hi2
 have g3:opdF f m ((insAt f b a).Operands.getD q default)=0:=firstF_zero g2 q hq
 refine Classical.byContradiction fun hn=>?_
 unfold opdF at g3
 rw [if_pos (.inl ⟨fun h=>hn (.inl h),fun h=>hn (.inr h)⟩)] at g3
 cases g3
section
variable {ps az : List Int} {K : Knw} {i j c : Nat}
end
end Go.Proofs.YtbmccmbgnkbmiaaGreat

/- Spans of a checked function lie one behind the other; covering against the document's rule; seams. Condition: a checked function. -/
import Derived.Test.YtbmccmbgnkbmiaaGreatLsp
import Derived.Test.YtbmccmbgnkbmiaaGreatHomA
set_option linter.unusedVariables false
set_option linter.unusedSimpArgs false
namespace Go.Proofs.YtbmccmbgnkbmiaaGreat
open Go Go.Abs Go.RowKit
theorem srtH_of:∀ {H:List Hom} {a:Int},(∀ i,i<H.length→(H.getD i default).From<(H.getD i default).To∧(if i=0 then a else (H.getD (i - 1) default).To)≤(H.getD i default).From)→srtH a H
 | [],_,_=>trivial
 | h::r,a,hi=>by
  have h0:=hi 0 (Nat.zero_lt_succ _)
  refine ⟨h0.2,h0.1,srtH_of fun i hl=>?_⟩
  have h1:=hi (i+1) (Nat.succ_lt_succ hl)
  refine ⟨h1.1,?_⟩
  have h2:=h1.2
  rw [if_neg (Nat.succ_ne_zero i)] at h2
  cases i with
  | zero=>exact h2
  | succ i=>exact h2
theorem srtH_at:∀ {H:List Hom} {a:Int},srtH a H→∀ i,i<H.length→(H.getD i default).From<(H.getD i default).To∧(if i=0 then a else (H.getD (i - 1) default).To)≤(H.getD i default).From
 | [],_,_,i,hl=>absurd hl (Nat.not_lt_zero _)
 | h::r,a,hs,i,hl=>by
  cases i with
  | zero=>exact ⟨hs.2.1,hs.1⟩
  | succ i =>
   have h1:=srtH_at hs.2.2 i (Nat.lt_of_succ_lt_succ hl)
   refine ⟨h1.1,?_⟩
   have h2:=h1.2
   cases i with
   | zero=>exact h2
   | succ i=>exact h2
def homK (seam:Int→Bool) (S:List (Int×Int)) (H:List Hom) (i:Nat):Prop :=
 ((H.getD i default).From<(H.getD i default).To∧(0<i→(H.getD (i - 1) default).To≤(H.getD i default).From))∧(∃ s,s∈S∧s.1≤(H.getD i default).From∧(H.getD i default).To≤s.2)∧((∃ s,s∈S∧s.1=(H.getD i default).From)∨seam (H.getD i default).From=true)
theorem mem_getD {α:Type} [Inhabited α] {l:List α} {x:α} (h:x∈l):∃ i,i<l.length∧l.getD i default=x:=by
 obtain ⟨i,hi,e⟩:=List.mem_iff_getElem.1 h
 exact ⟨i,hi,by rw [List.getD_eq_getElem?_getD,List.getElem?_eq_getElem hi]; exact e⟩
theorem srtS_two:∀ {S:List (Int×Int)} {a:Int},srtS a S→∀ s t,s∈S→t∈S→s=t∨s.2≤t.1∨t.2≤s.1
 | [],_,_,s,t,hs,_=>absurd hs List.not_mem_nil
 | x::r,a,h,s,t,hs,ht=>by
  rcases List.mem_cons.1 hs with e1|hs
  ·rcases List.mem_cons.1 ht with e2|ht
   ·exact .inl (e1.trans e2.symm)
   ·rw [e1]; exact .inr (.inl (srtS_ge h.2.2 t ht).1)
  ·rcases List.mem_cons.1 ht with e2|ht
   ·rw [e2]; exact .inr (.inr (srtS_ge h.2.2 s hs).1)
   ·exact srtS_two h.2.2 s t hs ht
theorem cov_iff {seam:Int→Bool} {S:List (Int×Int)} {H:List Hom} {a:Int} (hS:srtS a S):cov seam S H=true↔((∀ i,i<H.length→homK seam S H i)∧sumH H=sumS S):=by
 constructor
 ·intro h
  obtain ⟨h1,h2,h3⟩:=of_cov h hS
  refine ⟨fun i hi=>?_,h3⟩
  have h4:=srtH_at h1 i hi
  obtain ⟨s,g1,g2,g3,g4⟩:=h2 _ (getD_mem hi)
  refine ⟨⟨h4.1,fun hp=>?_⟩,⟨s,g1,g2,g3⟩,?_⟩
  ·have:=h4.2
   rwa [if_neg (by omega)] at this
  ·rcases g4 with g4|g4
   ·exact .inl ⟨s,g1,g4.symm⟩
   ·exact .inr g4
 ·rintro ⟨h1,h2⟩
  cases S with
  | nil =>
   cases H with
   | nil=>rfl
   | cons x r =>
    obtain ⟨_,⟨s,g,_⟩,_⟩:=h1 0 (Nat.zero_lt_succ _)
    exact absurd g List.not_mem_nil
  | cons s S =>
   have hi:∀ x,x∈H→InS (s::S) x:=fun x hx=>by
    obtain ⟨i,hi,rfl⟩:=mem_getD hx
    exact (h1 i hi).2.1
   have hlo:∀ x,x∈H→s.1≤x.From:=fun x hx=>by
    obtain ⟨t,ht,h3,_⟩:=hi x hx
    rcases List.mem_cons.1 ht with rfl|ht
    ·exact h3
    ·have:=(srtS_ge hS.2.2 t ht).1
     have:=hS.2.1
     omega
   have hs:srtH s.1 H:=srtH_of fun i hl=>by
    refine ⟨(h1 i hl).1.1,?_⟩
    by_cases e:i=0
    ·rw [if_pos e]; exact hlo _ (getD_mem hl)
    ·rw [if_neg e]; exact (h1 i hl).1.2 (by omega)
   refine cov_of seam (fun p=>(∃ t,t∈s::S∧t.1=p)∨seam p=true) hs (Int.le_refl _) hS.2.1 hS.2.2 hi (fun x hx=>?_) (fun t ht p hp1 hp2 ho=>?_) h2
   ·obtain ⟨i,hl,rfl⟩:=mem_getD hx
    exact (h1 i hl).2.2
   ·rcases ho with ⟨u,hu,e⟩|ho
    ·rcases srtS_two hS t u ht hu with rfl|h5|h5
     ·omega
     ·omega
     ·have:=(srtS_ge hS u hu).2
      omega
    ·exact ho
theorem til_end {seam:Int→Bool} {s:Int×Int} {a:Int} {H:List Hom} (h:¬ a<s.2):til seam s a H=some H:=by
 cases H with
 | nil=>exact if_neg h
 | cons x r=>exact if_neg h
theorem drop_at {H:List Hom} {k:Nat} (h:k<H.length):H.drop k=H.getD k default::H.drop (k+1):=by
 rw [List.drop_eq_getElem_cons h,List.getD_eq_getElem?_getD,List.getElem?_eq_getElem h]; rfl
theorem til_no {seam:Int→Bool} {s:Int×Int} {a:Int} {H:List Hom} {k:Nat} (ha:a<s.2) (h:k<H.length→¬ (((H.getD k default).From=a∧a<(H.getD k default).To∧(H.getD k default).To≤s.2)∧(a=s.1∨seam a=true))):til seam s a (H.drop k)=none:=by
 by_cases hk:k<H.length
 ·rw [drop_at hk]
  show (if a<s.2 then _ else _)=_
  rw [if_pos ha,if_neg (h hk)]
 ·rw [List.drop_eq_nil_of_le (by omega)]
  exact if_pos ha
theorem til_go {seam:Int→Bool} {s:Int×Int} {a:Int} {H:List Hom} {k:Nat} (ha:a<s.2) (hk:k<H.length) (h:((H.getD k default).From=a∧a<(H.getD k default).To∧(H.getD k default).To≤s.2)∧(a=s.1∨seam a=true)):til seam s a (H.drop k)=til seam s (H.getD k default).To (H.drop (k+1)):=by
 rw [drop_at hk]
 show (if a<s.2 then _ else _)=_
 rw [if_pos ha,if_pos h]
theorem startF_mono {f:Fun} (hC:Chkd f) {b:Nat}:∀ n,b+n≤f.Blocks.length→startF f.Blocks b≤startF f.Blocks (b+n)
 | 0,_=>Int.le_refl _
 | n+1,h=>by
  have h1:=startF_mono hC n (show b+n≤f.Blocks.length by omega)
  have h2:=startF_nx hC (show b+n<f.Blocks.length by omega)
  show _≤startF f.Blocks (b+n+1)
  omega
theorem startF_top {f:Fun} (hC:Chkd f) {b:Nat} (h:b<f.Blocks.length):startF f.Blocks b+2+2 * ((blkA f b).Instrs.length:Int)≤startF f.Blocks f.Blocks.length:=by
 have h1:=startF_nx hC h
 have h2:=startF_mono hC (b:=b+1) (f.Blocks.length - (b+1)) (by omega)
 rw [show b+1+(f.Blocks.length - (b+1))=f.Blocks.length by omega] at h2
 omega
theorem srtS_snoc:∀ {A:List (Int×Int)} {a:Int} {p:Int×Int},srtS a A→(∀ s,s∈A→s.2≤p.1)→a≤p.1→p.1≤p.2→srtS a (A++[p])
 | [],a,p,_,_,h1,h2=>⟨h1,h2,zt⟩
 | s::A,a,p,h,hs,h1,h2=>⟨h.1,h.2.1,srtS_snoc h.2.2 (fun t ht=>hs t (List.mem_cons_of_mem _ ht)) (hs s (List.mem_cons_self ..)) h2⟩
theorem srtS_last:∀ {A:List (Int×Int)} {a:Int} {q:Int×Int} {t:Int},srtS a (A++[q])→q.2≤t→srtS a (A++[(q.1,t)])
 | [],a,q,t,h,ht=>⟨h.1,Int.le_trans h.2.1 ht,zt⟩
 | s::A,a,q,t,h,ht=>⟨h.1,h.2.1,srtS_last h.2.2 ht⟩
theorem srtS_mg {L:List (Int×Int)} {a:Int} {p:Int×Int} (h:srtS a L) (hs:∀ s,s∈L→s.2≤p.1) (h1:a≤p.1) (h2:p.1≤p.2):srtS a (mgL L p)∧∀ s,s∈mgL L p→s.2≤p.2:=by
 unfold mgL
 cases hl:L.getLast? with
 | none =>
  exact ⟨⟨h1,h2,zt⟩,fun s hm=>by rcases List.mem_cons.1 hm with rfl|hm; exact Int.le_refl _; exact absurd hm List.not_mem_nil⟩
 | some q =>
  simp only
  obtain ⟨D,rfl⟩:=List.getLast?_eq_some_iff.1 hl
  split
  ·rename_i e
   rw [List.dropLast_concat]
   refine ⟨srtS_last h (by omega),fun s hm=>?_⟩
   rcases List.mem_append.1 hm with hm|hm
   ·have:=hs s (List.mem_append_left _ hm); omega
   ·rcases List.mem_cons.1 hm with rfl|hm
    ·exact Int.le_refl _
    ·exact absurd hm List.not_mem_nil
  ·refine ⟨srtS_snoc h hs h1 h2,fun s hm=>?_⟩
   rcases List.mem_append.1 hm with hm|hm
   ·have:=hs s hm; omega
   ·rcases List.mem_cons.1 hm with rfl|hm
    ·exact Int.le_refl _
    ·exact absurd hm List.not_mem_nil
theorem spL_srt {f:Fun} {m:Mch} (h0:chkF f m=0) (hC:Chkd f) {v:Nat} (hv:v<f.Values.length):∀ b,b≤f.Blocks.length→srtS 0 (spL f (v:Int) b)∧∀ s,s∈spL f (v:Int) b→s.2≤startF f.Blocks b
 | 0,_=>⟨zt,fun s hs=>absurd hs List.not_mem_nil⟩
 | b+1,hb=>by
  obtain ⟨h1,h2⟩:=spL_srt h0 hC hv b (by omega)
  have hk:=(sgK_of h0 hC (show b<f.Blocks.length by omega) hv 0).2.1
  have hn:=startF_nx hC (show b<f.Blocks.length by omega)
  have hp:=(startF_bd hC b (by omega)).1
  have e:spL f (v:Int) (b+1)=if 0≤(sgF f v b).1 then mgL (spL f v b) (startF f.Blocks b+(sgF f v b).1,startF f.Blocks b+(sgF f v b).2+1) else spL f v b:=rfl
  have hh:=hk.hi
  by_cases g:0≤(sgF f v b).1
  ·have hl:=hk.le g
   rw [e,if_pos g]
   obtain ⟨g1,g2⟩:=srtS_mg (p:=(startF f.Blocks b+(sgF f v b).1,startF f.Blocks b+(sgF f v b).2+1)) h1 (fun s hs=>by have:=h2 s hs; show s.2≤startF f.Blocks b+_; omega) (by show (0:Int)≤startF f.Blocks b+_; omega) (by show startF f.Blocks b+(sgF f v b).1≤startF f.Blocks b+(sgF f v b).2+1; omega)
   refine ⟨g1,fun s hs=>?_⟩
   have h3:s.2≤startF f.Blocks b+(sgF f v b).2+1:=g2 s hs
   omega
  ·rw [e,if_neg g]
   exact ⟨h1,fun s hs=>by have:=h2 s hs; omega⟩
end Go.Proofs.YtbmccmbgnkbmiaaGreat

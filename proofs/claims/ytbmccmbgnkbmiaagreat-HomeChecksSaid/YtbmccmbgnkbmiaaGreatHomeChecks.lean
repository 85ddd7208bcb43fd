/- The law HomeChecks returns true at every function, machine, homes and frame: home.Check answers as the document's HomesFault. No condition. -/
import Derived.Test.YtbmccmbgnkbmiaaGreatHomG
import Derived.Test.YtbmccmbgnkbmiaaGreatRows
import Derived.WalkKit
import Derived.ProofKit
import Derived.OpenShut
import Derived.ChangeOld
import Derived.Below
import Derived.SizedLaws
set_option linter.unusedVariables false
namespace Go.Proofs.YtbmccmbgnkbmiaaGreat.homeChecks
open Go Go.Abs Go.RowKit Go.ChangeShapes Go.WideShapes Go.ChangeAt
def SSp (avs:List AV):Prop:=∃ a b:Int,avs=[.i64 a,.i64 b]
theorem o_span:OpensC Tryz.prog 55 SSp :=
 (opens_fields Tryz.underlying55 (Ss:=[SI,SI]) (by kernel_rfl) ⟨o_int,o_int,zt⟩).mono (by
  rintro avs ⟨_,_,⟨a,rfl,wa⟩,⟨_,_,⟨b,rfl,wb⟩,rfl,rfl⟩,rfl⟩
  exact ⟨a,b,rfl⟩)
theorem o_hom:OpensC Tryz.prog 59 fun avs=>∃ o:Hom,avs=o.cells∧(fun _:Hom=>True) o :=
 (opens_fields Tryz.underlying59 (Ss:=[SSp,SPl]) (by kernel_rfl) ⟨o_span,o_plc,zt⟩).mono (by
  rintro avs ⟨_,_,⟨a,b,rfl⟩,⟨_,_,⟨p,rfl,wp⟩,rfl,rfl⟩,rfl⟩
  exact ⟨⟨a,b,p⟩,rfl,zt⟩)
theorem o_homL:OpensC Tryz.prog 51 fun avs=>∃ l:List Hom,avs=[homV l]∧LOk 40 (fun _=>True) l :=
 opens_slice (sz:=5) Tryz.underlying51 (by kernel_rfl) (by decide) (fun _=>rfl) (by kernel_rfl) o_hom
theorem o_homes:OpensC Tryz.prog 29 (SL 24 1 (fun H=>[homV H]) (fun H=>LOk 40 (fun _=>True) H)) :=
 opens_slice (sz:=1) Tryz.underlying29 (by kernel_rfl) (by decide) (fun _=>rfl) (by kernel_rfl) o_homL
theorem law_of (f:Fun) (m:Mch) (L:List (List Hom)) (fr:Int) (h1:ACallIs B.P 6 [f.av,m.av,homsV L,.i64 fr] (.i64 (hmF f m L fr))) (h2:ACallIs B.P 7 [f.av,m.av,homsV L,.i64 fr] (.i64 (hmF f m L fr))):ACallIs B.P 3 [f.av,m.av,homsV L,.i64 fr] (.bool true):=by
 refine ACallIs.enter B _ _ Tryz.func3 rfl rfl Tryz.ntmps3 Tryz.results3 rfl fun _=>?_
 repeat (first|apply zq|apply zb|apply zk)
 apply zr;intro _
 refine AWp.freezeObj 4 rfl rfl ?_
 refine AWp.freezeObj 5 rfl rfl ?_
 repeat (first|apply zq|apply zb|apply zk)
 apply zr
 repeat' (first|exact zt|apply zi|refine CallX.pure h1 rfl rfl rfl ?_|fail)
 intro _
 repeat (first|apply zq|apply zb|apply zk)
 apply zr
 repeat' (first|exact zt|apply zi|refine CallX.pure h2 rfl rfl rfl ?_|fail)
 intro _
 repeat (first|apply zq|apply zb|apply zk)
 apply zr;intro _
 refine AWp.ret ⟨Or.inl rfl,rfl,?_⟩
 intro _
 refine tupB (show (hmF f m L fr==hmF f m L fr)=true from ?_)
 simp
theorem c_l_HomeChecks (f:Fun) (m:Mch) (L:List (List Hom)) (hok:Fun.ok f) (hL:LOk 24 (fun H=>LOk 40 (fun _=>True) H) L) (fr:Int):ACallIs B.P 3 [f.av,m.av,homsV L,.i64 fr] (.bool true):=by
 by_cases h0:flwF f m=0
 ·obtain ⟨d,h⟩:=trOk_of h0
  have hC:=chkd_of0 h0
  have hc0:chkF f m=0:=Classical.byContradiction fun hn=>by rw [flwF_1 hn] at h0; exact hn h0
  obtain ⟨_,z1,z2,_,_⟩:=chkF_zero hc0
  have hz:=sizOk_of z1
  have hv:=vOk_of z1 z2
  have hcl:∀ b a,b<f.Blocks.length→a<(f.Blocks.getD b default).Instrs.length→ClmOk f (xAt f b a):=fun b a hb ha=>clm_ok hc0 hz hv hb ha
  have hl:(insA (clB f f.Blocks.length)).length≤maxLen:=by
   have h1:=insA_len (clB f f.Blocks.length)
   have h2:=clB_len hz f.Blocks.length (Nat.le_refl _)
   have h3:=hz.blocks
   unfold maxLen; omega
  have hlen:L.length≤maxLen:=by have:=hL.1; unfold maxLen; omega
  have hH:∀ H,H∈L→H.length≤maxLen:=fun H hm=>by have:=(hL.2 H hm).1; unfold maxLen; omega
  exact law_of f m L fr (c_HomeCheck f m L fr hok h hC hc0 h0 hz hv hcl hlen hH hl) (c_HomesFault f m L fr hok hC hc0 h0 hz hv hcl hlen hH hl)
 ·exact law_of f m L fr (c_HomeCheckNo f m L fr hok h0) (c_HomesFaultNo f m L fr hok h0)
set_option maxRecDepth 100000 in
theorem calls {H:Type} {enc:TypeId×Value→H} (w:World) {d0 d1 d2 d3:DataW H}
  (hw:(DataW.weightsEach Tryz.prog [25,28,29,3] [d0,d1,d2,d3]).all (·≤reachBytes)=true)
  (v0:Value) {r0:Reach} {b0:Nat} {p0:List MemPlace} {s0:Nat→Bool} {e0:Bool} (ok0:Value.okWide Tryz.prog w r0 b0 25 v0) (h0:DataW.Trod enc Tryz.prog w 0 s0 e0 25 v0 d0 p0)
  (v1:Value) {r1:Reach} {b1:Nat} {p1:List MemPlace} {s1:Nat→Bool} {e1:Bool} (ok1:Value.okWide Tryz.prog w r1 b1 28 v1) (h1:DataW.Trod enc Tryz.prog w 0 s1 e1 28 v1 d1 p1)
  (v2:Value) {r2:Reach} {b2:Nat} {p2:List MemPlace} {s2:Nat→Bool} {e2:Bool} (ok2:Value.okWide Tryz.prog w r2 b2 29 v2) (h2:DataW.Trod enc Tryz.prog w 0 s2 e2 29 v2 d2 p2)
  (v3:Value) {r3:Reach} {b3:Nat} {p3:List MemPlace} {s3:Nat→Bool} {e3:Bool} (ok3:Value.okWide Tryz.prog w r3 b3 3 v3) (h3:DataW.Trod enc Tryz.prog w 0 s3 e3 3 v3 d3 p3)
  : Calls Tryz.prog 3 #[v0,v1,v2,v3] w fun e w'=>e=.returned (.bool true)∧Below w.heap.size w w':=by
 obtain ⟨_,⟨f,rfl,fk⟩,m0⟩:=open_value o_fun hw 0 rfl rfl h0
 obtain ⟨c0,q0,_⟩:=okWide_struct Tryz.underlying25 ok0
 obtain ⟨_,⟨m,rfl,mk⟩,m1⟩:=open_value o_mch hw 1 rfl rfl h1
 obtain ⟨c1,q1,_⟩:=okWide_struct Tryz.underlying28 ok1
 obtain ⟨_,⟨L,rfl,Lk⟩,m2⟩:=open_value o_homes hw 2 rfl rfl h2
 obtain ⟨_,⟨fr,rfl,frk⟩,m3⟩:=open_value o_int hw 3 rfl rfl h3
 exact law_calls (c_l_HomeChecks f m L fk Lk fr) w [v0,v1,v2,v3] rfl fun j y hy=>by
  match j,hy with
  | 0,hy=>simp at hy; subst hy; exact rep_agg_of q0 m0
  | 1,hy=>simp at hy; subst hy; exact rep_agg_of q1 m1
  | 2,hy=>simp at hy; subst hy; exact rep_one_of (one_slice Tryz.underlying29 ok2) m2
  | 3,hy=>simp at hy; subst hy; exact rep_one_of (one_int Tryz.underlying3 ok3) m3
set_option maxRecDepth 100000 in
theorem lifted (os:Os) (started:os.Started) (H:Type) (enc:TypeId×Value→H) :
  ReturnsInHanded {} Tryz.checked os 3 .any (Rows.homeChecksSpec.pre6 enc Tryz.prog Tryz.f3 Rows.homeChecksRow.domain false) (Rows.homeChecksSpec.post enc Tryz.prog Tryz.f3 false true false false):=by
 refine returnsInHanded_of_change_sized (C:=Tryz.checked) own started (by kernel_rfl) Tryz.func3
  (ChangeSpec.witness6 (enc:=enc) (C:=Tryz.checked) false ⟨#[],#[.agg #[.slice none 0 0,.slice none 0 0],.agg #[.int .i64 0,.int .i64 0],.slice none 0 0,.int .i64 0],[]⟩ 8 (by kernel_rfl) (by kernel_rfl) (by kernel_rfl) (by kernel_rfl)) ?_
 intro W base args ds gs before hval0 hW hcnd hwt hsz0
 have hval:∀ (j:Nat) t v,Tryz.f3.params[j]? = some t→args[j]? = some v→Value.okWide Tryz.prog W .any base t v:=hval0
 have hW':=hW
 obtain ⟨p,q,hA0,hV,rfl,hfz,hnd⟩:=hW
 have hA:DataW.TrodAll enc Tryz.prog W 0 (fun _=>true) true Tryz.f3.params.toList args.toList ds p:=hA0
 rw [Tryz.params3] at hA hval
 obtain ⟨v0,vs0,d0,ds0,p0,q0,hargs,rfl,rfl,h0,r0⟩:=trodAll_cons hA
 obtain ⟨v1,vs1,d1,ds1,p1,q1,rfl,rfl,rfl,h1,r1⟩:=trodAll_cons r0
 obtain ⟨v2,vs2,d2,ds2,p2,q2,rfl,rfl,rfl,h2,r2⟩:=trodAll_cons r1
 obtain ⟨v3,vs3,d3,ds3,p3,q3,rfl,rfl,rfl,h3,r3⟩:=trodAll_cons r2
 obtain ⟨rfl,rfl,rfl⟩:=trodAll_nil r3
 obtain rfl:args=#[v0,v1,v2,v3]:=by cases args; simp_all
 obtain ⟨rfl,rfl⟩:=trodVars_none hV
 have lt0:∀ x∈p0,x.block<W.heap.size:=by obtain ⟨m,hm⟩:=h0; exact DataW.trod_lt m _ _ _ hm
 have ok0:=hval 0 25 v0 rfl rfl
 have lt1:∀ x∈p1,x.block<W.heap.size:=by obtain ⟨m,hm⟩:=h1; exact DataW.trod_lt m _ _ _ hm
 have ok1:=hval 1 28 v1 rfl rfl
 have lt2:∀ x∈p2,x.block<W.heap.size:=by obtain ⟨m,hm⟩:=h2; exact DataW.trod_lt m _ _ _ hm
 have ok2:=hval 2 29 v2 rfl rfl
 have lt3:∀ x∈p3,x.block<W.heap.size:=by obtain ⟨m,hm⟩:=h3; exact DataW.trod_lt m _ _ _ hm
 have ok3:=hval 3 3 v3 rfl rfl
 clear hA0 hval0
 have hw2:(DataW.weightsEach Tryz.prog [25,28,29,3] [d0,d1,d2,d3]).all (·≤reachBytes)=true:=by
  have h:=hwt
  rw [Tryz.params3] at h
  exact h
 refine (calls W hw2 _ ok0 h0 _ ok1 h1 _ ok2 h2 _ ok3 h3).mono fun e W' ⟨he,bel⟩=>?_
 subst he
 exact ⟨_,rfl,_,_,_,[],_,[],hW',trodAll_mk1 (shut_bool Tryz.underlying4 _),(trodAll_cons_mk (Below.trod laidOut (by kernel_rfl) (of_decide_eq_true (by kernel_rfl)) h0 bel lt0) (trodAll_cons_mk (Below.trod laidOut (by kernel_rfl) (of_decide_eq_true (by kernel_rfl)) h1 bel lt1) (trodAll_cons_mk (Below.trod laidOut (by kernel_rfl) (of_decide_eq_true (by kernel_rfl)) h2 bel lt2) (trodAll_cons_mk (Below.trod laidOut (by kernel_rfl) (of_decide_eq_true (by kernel_rfl)) h3 bel lt3) trodAll_mk0)))),rfl,bel.frame _,fun h=>by cases h⟩
theorem over:Rows.homeChecksRow.holds Tryz.pinned (OpenSpec.ofChange Rows.homeChecksSpec) :=
 OpenClaim.holds_of_wide 3 Tryz.f3 rfl rfl rfl rfl rfl rfl rfl ⟨rfl,rfl,rfl,rfl,rfl⟩ rfl rfl rfl rfl rfl (by kernel_rfl) Tryz.func3 (by kernel_rfl)
  (of_decide_eq_true (by kernel_rfl)) (by unfold Func.isWrapper; first|(rw [if_pos (by decide +kernel)]; kernel_rfl)|(rw [if_neg (by decide +kernel)]; exact ⟨rfl,rfl⟩))
  (fun os started H enc _=>lifted os started H enc)
theorem proved:Rows.HomeChecksSaid:=over
#print axioms proved
end Go.Proofs.YtbmccmbgnkbmiaaGreat.homeChecks

/- Sets of values as words of 64 bits: plain facts; contracts of live's sets. -/
import Derived.Test.YtbmccmbgnkbmiaaGreatLow
import Derived.Laws.Bits64b
import Derived.Test.YtbmccmbgnkbmiaaGreatQui
import Derived.Test.YtbmccmbgnkbmiaaGreatFlw
set_option linter.unusedVariables false
set_option linter.unusedSimpArgs false
namespace Go.Proofs.YtbmccmbgnkbmiaaGreat
open Go Go.Abs Go.RowKit
def wN (S:Nat→Bool) (i:Nat):Nat→Nat
 | 0=>0
 | k+1=>2 ^ k * (S (64 * i+k)).toNat+wN S i k
def wrd (S:Nat→Bool) (i:Nat):Int:=((wN S i 64:Nat):Int)
section
variable {S T U : Nat → Bool} {i : Nat}
theorem wN_lt:∀ k,wN S i k<2 ^ k
 | 0=>by simp [wN]
 | k+1=>by
  have:=wN_lt k
  unfold wN
  rw [Nat.pow_succ]
  cases S (64 * i+k)<;>simp<;>omega
theorem wN_bit:∀ k j,(wN S i k).testBit j=(decide (j<k)&&S (64 * i+j))
 | 0,j=>by simp [wN]
 | k + 1,j=>by
  have hl:=wN_lt (S:=S) (i:=i) k
  have ih:=wN_bit k j
  unfold wN
  cases hs:S (64 * i+k) with
  | false =>
   simp only [Bool.toNat_false,Nat.mul_zero,Nat.zero_add,ih]
   by_cases e:j=k
   ·subst e; simp [hs]
   ·by_cases h:j<k
    ·simp [h,Nat.lt_succ_of_lt h]
    ·simp [h,show ¬ j<k+1 by omega]
  | true =>
   simp only [Bool.toNat_true,Nat.mul_one]
   by_cases e:j=k
   ·subst e; rw [Nat.testBit_two_pow_add_eq,ih]; simp [hs]
   ·by_cases h:j<k
    ·rw [Nat.testBit_two_pow_add_gt h,ih]; simp [h,Nat.lt_succ_of_lt h]
    ·have h2:k<j:=by omega
     have:2 ^ k+wN S i k<2 ^ j:=by
      have h3:2 ^ (k+1)≤2 ^ j:=Nat.pow_le_pow_right (by decide) h2
      rw [Nat.pow_succ] at h3; omega
     rw [Nat.testBit_lt_two_pow this]; simp [show ¬ j<k+1 by omega]
end
attribute [irreducible] wN
section
variable {S T U : Nat → Bool} {i : Nat}
theorem wN_big:wN S i 64<18446744073709551616:=wN_lt (S:=S) (i:=i) 64
theorem wN_eq {n:Nat} (hn:n<18446744073709551616) (h:∀ j,j<64→n.testBit j=S (64 * i+j)):(n:Int)=wrd S i:=by
 unfold wrd
 congr 1
 refine Nat.eq_of_testBit_eq fun j=>?_
 rw [wN_bit]
 by_cases hj:j<64
 ·rw [h j hj]; simp [hj]
 ·rw [Nat.testBit_lt_two_pow (Nat.lt_of_lt_of_le hn (Nat.pow_le_pow_right (Nat.zero_lt_succ 1) (show 64≤j by omega)):n<2 ^ j)]
  simp [hj]
theorem wrd_congr (h:∀ j,j<64→S (64 * i+j)=T (64 * i+j)):wrd S i=wrd T i :=
 wN_eq wN_big fun j hj=>by rw [wN_bit]; simp [hj,h j hj]
theorem wrd_or:bits .or .u64 (wrd S i) (wrd T i)=wrd (fun v=>S v||T v) i:=by
 unfold wrd
 rw [bits_or_u64_nat _ _ wN_big wN_big]
 refine wN_eq (Nat.or_lt_two_pow (n:=64) wN_big wN_big) fun j hj=>?_
 rw [Nat.testBit_or,wN_bit,wN_bit]; simp [hj]
theorem bits_andNot_u64_nat (a b:Nat) (ha:a<18446744073709551616) (hb:b<18446744073709551616) :
  bits .andNot .u64 (a:Int) (b:Int)=((a &&& (18446744073709551616 - 1 - b):Nat):Int):=by
 have hx:a &&& (18446744073709551616 - 1 - b)<2 ^ 64:=Nat.and_lt_two_pow _ (by omega)
 have h1:(BitVec.ofInt 64 (a:Int)).toNat=a:=by
  rw [BitVec.ofInt_natCast,BitVec.toNat_ofNat]; exact Nat.mod_eq_of_lt (by omega)
 have h2:(BitVec.ofInt 64 (b:Int)).toNat=b:=by
  rw [BitVec.ofInt_natCast,BitVec.toNat_ofNat]; exact Nat.mod_eq_of_lt (by omega)
 show IntKind.u64.wrap ((BitVec.ofInt 64 (a:Int) &&& ~~~ BitVec.ofInt 64 (b:Int)).toNat:Int)=_
 rw [BitVec.toNat_and,BitVec.toNat_not,h1,h2,IntKind.wrap_u64]
 have e:(2:Nat) ^ 64=18446744073709551616:=rfl
 rw [e]
 have hx':a &&& (18446744073709551616 - 1 - b)<18446744073709551616:=hx
 omega
theorem wrd_andNot:bits .andNot .u64 (wrd S i) (wrd T i)=wrd (fun v=>S v&&!T v) i:=by
 unfold wrd
 rw [bits_andNot_u64_nat _ _ wN_big wN_big]
 refine wN_eq (Nat.and_lt_two_pow (n:=64) _ (by omega)) fun j hj=>?_
 have h2:(18446744073709551616 - 1 - wN T i 64).testBit j=(decide (j<64)&&!(wN T i 64).testBit j):=by
  have:=Nat.testBit_two_pow_sub_succ (n:=64) (x:=wN T i 64) wN_big j
  rw [← this]
  congr 1
  have e:(2:Nat) ^ 64=18446744073709551616:=rfl
  have:=wN_big (S:=T) (i:=i)
  omega
 rw [Nat.testBit_and,h2,wN_bit,wN_bit]; simp [hj]
def oneS (v:Nat):Nat→Bool:=fun u=>decide (u=v)
theorem one_bit (v:Nat):IntKind.u64.wrap (1 * 2 ^ min ((v % 64:Nat):Int).toNat IntKind.u64.bits)=wrd (oneS v) (v / 64):=by
 have hm:min ((v % 64:Nat):Int).toNat IntKind.u64.bits=v % 64:=by
  have e:IntKind.u64.bits=64:=rfl
  rw [e,Int.toNat_natCast]; omega
 have hp:2 ^ (v % 64)<18446744073709551616:=Nat.pow_lt_pow_right (by decide) (show v % 64<64 by omega)
 rw [hm,Int.one_mul,IntKind.wrap_u64]
 have hc:((2:Int) ^ (v % 64))=(((2:Nat) ^ (v % 64):Nat):Int):=(Int.natCast_pow 2 (v % 64)).symm
 rw [hc]
 generalize hg:(2:Nat) ^ (v % 64)=g at hp
 have:((g:Int) % 18446744073709551616)=(g:Int):=by omega
 rw [this]
 subst hg
 refine wN_eq hp fun j hj=>?_
 unfold oneS
 rw [Nat.testBit_two_pow]
 by_cases e:v % 64=j
 ·subst e; simp; omega
 ·simp [e]; omega
theorem has_bit (v:Nat):bits .and .u64 ((wrd S (v / 64)).fdiv (2 ^ min ((v % 64:Nat):Int).toNat IntKind.u64.bits)) 1=if S v=true then 1 else 0:=by
 have hm:min ((v % 64:Nat):Int).toNat IntKind.u64.bits=v % 64:=by
  have e:IntKind.u64.bits=64:=rfl
  rw [e,Int.toNat_natCast]; omega
 have hc:((2:Int) ^ (v % 64))=(((2:Nat) ^ (v % 64):Nat):Int):=(Int.natCast_pow 2 (v % 64)).symm
 unfold wrd
 rw [hm,hc,Int.fdiv_eq_ediv_of_nonneg _ (Int.natCast_nonneg _),← Int.natCast_ediv]
 have hlt:wN S (v / 64) 64 / 2 ^ (v % 64)<18446744073709551616:=Nat.lt_of_le_of_lt (Nat.div_le_self _ _) wN_big
 have:=bits_and_u64_nat (wN S (v / 64) 64 / 2 ^ (v % 64)) 1 hlt (by decide)
 rw [show ((1:Nat):Int)=1 from rfl] at this
 rw [this,Nat.and_one_is_mod]
 have hb:=wN_bit (S:=S) (i:=v / 64) 64 (v % 64)
 rw [Nat.testBit_eq_decide_div_mod_eq,show 64 * (v / 64)+v % 64=v by omega] at hb
 have h64:v % 64<64:=by omega
 simp only [h64,decide_true,Bool.true_and] at hb
 cases hS:S v with
 | true=>rw [hS] at hb; have h1:=of_decide_eq_true hb; rw [h1]; rfl
 | false =>
  rw [hS] at hb
  have h1:=of_decide_eq_false hb
  have h2:wN S (v / 64) 64 / 2 ^ (v % 64) % 2=0:=by omega
  rw [h2]; rfl
theorem wrd_zero:wrd S i=0↔∀ j,j<64→S (64 * i+j)=false:=by
 constructor
 ·intro h j hj
  have h0:wN S i 64=0:=by unfold wrd at h; omega
  have:=wN_bit (S:=S) (i:=i) 64 j
  rw [h0] at this; simpa [hj] using this.symm
 ·intro h
  have:wrd S i=wrd (fun _=>false) i:=wrd_congr h
  rw [this]
  have h2:((0:Nat):Int)=wrd (fun _=>false) i:=wN_eq (by decide) fun j hj=>by simp
  exact h2.symm
end
def putS (S:Nat→Bool) (v:Nat):Nat→Bool:=fun u=>S u||decide (u=v)
def dropS (S:Nat→Bool) (v:Nat):Nat→Bool:=fun u=>S u&&!decide (u=v)
theorem word_div {v:Nat}:((v:Nat):Int).tdiv 64=((v / 64:Nat):Int):=by
 rw [Int.tdiv_eq_ediv_of_nonneg (by omega)]; omega
theorem word_mod {v:Nat}:((v:Nat):Int).tmod 64=((v % 64:Nat):Int):=by
 rw [Int.tmod_eq_emod_of_nonneg (by omega)]; omega
theorem put_row {S:Nat→Bool} {v i:Nat}:[AV.int .u64 (wrd (putS S v) i)]=if i=v / 64 then [AV.int .u64 (bits .or .u64 (wrd S (v / 64)) (wrd (oneS v) (v / 64)))] else [AV.int .u64 (wrd S i)]:=by
 by_cases e:i=v / 64
 ·subst e; rw [if_pos rfl,wrd_or]; rfl
 ·rw [if_neg e]
  exact congrArg (fun z=>[AV.int .u64 z]) (wrd_congr fun j hj=>by unfold putS; rw [decide_eq_false (by omega),Bool.or_false])
theorem drop_row {S:Nat→Bool} {v i:Nat}:[AV.int .u64 (wrd (dropS S v) i)]=if i=v / 64 then [AV.int .u64 (bits .andNot .u64 (wrd S (v / 64)) (wrd (oneS v) (v / 64)))] else [AV.int .u64 (wrd S i)]:=by
 by_cases e:i=v / 64
 ·subst e; rw [if_pos rfl,wrd_andNot]; rfl
 ·rw [if_neg e]
  exact congrArg (fun z=>[AV.int .u64 z]) (wrd_congr fun j hj=>by unfold dropS; rw [decide_eq_false (by omega)]; simp)
@[reducible] def bitC (S:Nat→Bool) (i:Nat):List AV:=[.int .u64 (wrd S i)]
@[reducible] def bitV (k:Nat) (S:Nat→Bool):AV:=.ro 1 k (bitC S)
@[reducible] def nW (n:Nat):Nat:=(n+63) / 64
def lstS (S:Nat→Bool) (n:Nat):List Nat:=(List.range n).filter S
theorem lstS_yes {S:Nat→Bool} {n:Nat} (h:S n=true):lstS S (n+1)=lstS S n++[n]:=by unfold lstS; rw [List.range_succ,List.filter_append]; simp [h]
theorem lstS_no {S:Nat→Bool} {n:Nat} (h:S n=false):lstS S (n+1)=lstS S n:=by unfold lstS; rw [List.range_succ,List.filter_append]; simp [h]
theorem lstS_len {S:Nat→Bool} (n:Nat):(lstS S n).length≤n:=by
 unfold lstS
 have:=List.length_filter_le S (List.range n)
 simpa using this
def nonS:Nat→Bool:=fun _=>false
@[reducible] def rowU (k:Nat) (S:Nat→Bool):HO:=.row 233 1 k (bitC S)
@[reducible] def famU (D:List Nat→Prop) (k:Nat) (S:List Nat→Nat→Bool):HO:=.fam D (fun jx=>rowU k (S jx))
theorem w_div {v:Nat} (hm:v≤4000000):IntKind.i64.wrap (((v:Nat):Int).tdiv 64)=((v / 64:Nat):Int):=by rw [word_div]; exact wrap_in (by omega) (by omega)
theorem one_bit' {v:Nat}:IntKind.u64.wrap (1 * 2 ^ min ((v:Int).tmod 64).toNat IntKind.u64.bits)=wrd (oneS v) (v / 64):=by rw [word_mod]; exact one_bit v
theorem has_bit' {v:Nat} {S:Nat→Bool}:(bits .and .u64 ((wrd S (v / 64)).fdiv (2 ^ min ((v:Int).tmod 64).toNat IntKind.u64.bits)) 1==1)=S v:=by
 rw [word_mod,has_bit]
 cases S v<;>rfl
theorem mod_nn {v:Nat}:0≤((v:Nat):Int).tmod 64:=by rw [word_mod]; omega
theorem c_Has {k v:Nat} (S:Nat→Bool) (hv:v / 64<k) (hm:v≤1000000):ACallIs B.P 81 [bitV k S,.i64 v] (.bool (S v)):=by
 have hd:=w_div (v:=v) (by omega)
 refine ACallIs.enter B _ _ Tryz.func81 rfl rfl Tryz.ntmps81 Tryz.results81 rfl fun _=>?_
 repeat (first|apply zq|apply zb|apply zk)
 apply zr;intro _
 repeat (first|apply zq|apply zb|apply zk)
 apply zr
 refine zi (by decide) ?_
 refine zi (fun _=>by rw [hd]; omega) ?_
 refine zi (by decide) ?_
 repeat' apply zi
 all_goals first|exact mod_nn|exact fun _=>mod_nn|skip
 intro _
 refine AWp.ret ⟨Or.inl rfl,rfl,?_⟩
 intro _
 rw [hd,Int.toNat_natCast,has_bit']
 rfl
def setF (S:List Nat→Nat→Bool) (ix:List Nat) (R:Nat→Bool):List Nat→Nat→Bool:=fun z=>if z=ix then R else S z
theorem setF_same {S:List Nat→Nat→Bool} {ix:List Nat} {R:Nat→Bool}:setF S ix R ix=R:=if_pos rfl
theorem setF_ne {S:List Nat→Nat→Bool} {ix jx:List Nat} {R:Nat→Bool} (h:jx≠ix):setF S ix R jx=S jx:=if_neg h
theorem sub1_sel {e e' esz esz' n:Nat} {f g h:Nat→List AV} {jx ix:List Nat} (h1:jx=ix→∀ i,i<n→h i=f i) (h2:jx≠ix→∀ i,i<n→h i=g i):sub1 (HO.sel (decide (jx=ix)) (.row e' esz' n f) (.row e esz n g)) (.row e esz n h):=by
 by_cases q:jx=ix
 ·rw [decide_eq_true q]; exact ⟨_,_,rfl,rfl,fun i hi=>h1 q i hi⟩
 ·rw [decide_eq_false q]; exact ⟨_,_,rfl,rfl,fun i hi=>h2 q i hi⟩
set_option maxHeartbeats 1000000 in
theorem m_Put {ix:List Nat} {D:List Nat→Prop} (hD:D ix) {k v:Nat} (S:List Nat→Nat→Bool) (hv:v / 64<k) (hm:v≤1000000) :
  ACallM B.P 132 ⟨[.sl ⟨1001,ix⟩ k,.i64 v],[(1001,famU D k S)],.tup [],[(1001,famU D k (setF S ix (putS (S ix) v)))]⟩:=by
 have hd:=w_div (v:=v) (by omega)
 refine ACallM.enter B _ _ Tryz.func132 rfl rfl Tryz.ntmps132 Tryz.results132 rfl ?_ fun _=>?_
 ·refine zi (zi (fun jx h=>trivial) zt) (zi (zi hD (zi zt zt)) (zi (fun jx h=>h) zt))
 repeat (first|apply zq|apply zb|apply zk)
 refine AWp.quietP (.q 0 (.q 1 (.q 2 (.q 3 (.q 5 (.q 6 (.q 7 (.c 4 false (.q 8 (.q 9 (.c 10 true .fin .no))) .no)))))))) [0,1,2,3,5,6,7,8,9] [] mixed (by kernel_rfl) ?_
 repeat' apply zi
 all_goals first|exact (by decide:(64:Int)≠0)|exact mod_nn|exact fun _=>mod_nn|exact fun _=>hD|exact fun _=>(by rw [hd]; omega)|exact (by rw [hd]; omega:(IntKind.i64.wrap ((v:Int).tdiv 64)).toNat<k)|exact zt|skip
 intro _
 refine ⟨Or.inr rfl,?_⟩
 intro _
 refine zi rfl (zi zt (zi ⟨_,_,rfl,fun jx hD=>⟨hD,sub1_sel (fun e i hi=>?_) (fun e i hi=>congrArg (fun z=>bitC z i) (setF_ne e))⟩⟩ (zi (fun jx hD=>trivial) zt)))
 subst e
 show bitC (setF S jx (putS (S jx) v) jx) i=_
 rw [setF_same,hd,Int.toNat_natCast,one_bit']
 exact put_row
theorem c_fresh (n:Nat) (hn:n≤1000000):ACallM B.P 78 ⟨[.i64 n],[],.sl 6 (nW n),[(6,rowU (nW n) nonS)]⟩:=by
 have h1:IntKind.i64.wrap ((n:Int)+63)=((n+63:Nat):Int):=(wrap_in (by omega) (by omega)).trans (by omega)
 have hd:IntKind.i64.wrap ((IntKind.i64.wrap ((n:Int)+63)).tdiv 64)=(((n+63) / 64:Nat):Int):=by
  rw [h1]
  exact w_div (v:=n+63) (by omega)
 have hn2:(n+63) / 64≤15626:=by omega
 refine ACallM.enter B _ _ Tryz.func78 rfl rfl Tryz.ntmps78 Tryz.results78 rfl ?_ fun _=>?_
 ·refine zi zt (zi (zi zt zt) zt)
 repeat (first|apply zq|apply zb|apply zk)
 apply zr;intro _
 repeat (first|apply zq|apply zb|apply zk)
 apply zr
 refine zi (by decide) ?_
 refine zi rfl (zi (by rw [hd]; exact Int.natCast_nonneg _) (zi (by rw [hd,Int.toNat_natCast]; omega) ?_))
 intro _
 refine AWp.ret ⟨Or.inl rfl,?_⟩
 intro _
 refine zi ?_ (zi rfl (zi ⟨_,_,rfl,?_,fun i hi=>?_⟩ (zi zt zt)))
 ·rw [hd]; rfl
 ·rw [hd]; rfl
 ·show [AV.int .u64 (wrd nonS i)]=[AV.int .u64 0]
  rw [wrd_zero.2 fun j hj=>rfl]
def upS (S C:Nat→Bool) (j:Nat):Nat→Bool:=fun v=>S v||(C v&&decide (v / 64<j))
def newW (S C:Nat→Bool) (j:Nat):Bool:=wrd (fun v=>C v&&!S v) j != 0
def grw (S C:Nat→Bool) (k:Nat):Bool:=anyB (newW S C) k
theorem up_word {S C:Nat→Bool} {j:Nat}:wrd (fun v=>C v&&!upS S C j v) j=wrd (fun v=>C v&&!S v) j :=
 wrd_congr fun t ht=>by unfold upS; rw [decide_eq_false (by omega)]; simp
theorem up_row {S C:Nat→Bool} {j i:Nat}:bitC (upS S C (j+1)) i=if i=j then [AV.int .u64 (bits .or .u64 (wrd (upS S C j) j) (wrd C j))] else bitC (upS S C j) i:=by
 by_cases e:i=j
 ·subst e; rw [if_pos rfl,wrd_or]
  exact congrArg (fun z=>[AV.int .u64 z]) (wrd_congr fun t ht=>by unfold upS; rw [decide_eq_true (by omega),decide_eq_false (by omega)]; simp)
 ·rw [if_neg e]
  exact congrArg (fun z=>[AV.int .u64 z]) (wrd_congr fun t ht=>by
   unfold upS
   by_cases g:i<j
   ·rw [decide_eq_true (by omega),decide_eq_true (by omega)]
   ·rw [decide_eq_false (by omega),decide_eq_false (by omega)])
theorem up_same {S C:Nat→Bool} {j i:Nat} (h:newW S C j=false):bitC (upS S C (j+1)) i=bitC (upS S C j) i:=by
 have h0:wrd (fun v=>C v&&!S v) j=0:=by simpa [newW] using h
 have h1:=wrd_zero.1 h0
 refine congrArg (fun z=>[AV.int .u64 z]) (wrd_congr fun t ht=>?_)
 unfold upS
 by_cases e:i=j
 ·subst e
  rw [decide_eq_true (by omega),decide_eq_false (by omega)]
  have:=h1 t ht
  cases hS:S (64 * i+t)<;>simp_all
 ·by_cases g:i<j
  ·rw [decide_eq_true (by omega),decide_eq_true (by omega)]
  ·rw [decide_eq_false (by omega),decide_eq_false (by omega)]
theorem up_all {S C:Nat→Bool} {k i:Nat} (hi:i<k):bitC (fun v=>S v||C v) i=bitC (upS S C k) i :=
 congrArg (fun z=>[AV.int .u64 z]) (wrd_congr fun t ht=>by unfold upS; rw [decide_eq_true (by omega)]; simp)
theorem newW_iff {S C:Nat→Bool} {j:Nat}:newW S C j=true↔∃ v,v / 64=j∧C v=true∧S v=false:=by
 constructor
 ·intro h
  have h0:¬ wrd (fun v=>C v&&!S v) j=0:=by simpa [newW] using h
  rw [wrd_zero] at h0
  obtain ⟨t,h1⟩:=Classical.not_forall.1 h0
  obtain ⟨ht,h1⟩:=Classical.not_imp.1 h1
  refine ⟨64 * j+t,by omega,?_⟩
  simpa using h1
 ·rintro ⟨v,hv,h1,h2⟩
  refine Classical.byContradiction fun h=>?_
  have h0:wrd (fun v=>C v&&!S v) j=0:=by simpa [newW] using h
  have:=wrd_zero.1 h0 (v - 64 * j) (by omega)
  rw [show 64 * j+(v - 64 * j)=v by omega,h1,h2] at this
  cases this
theorem grw_succ {S C:Nat→Bool} {k:Nat}:grw S C (k+1)=(grw S C k||newW S C k):=by unfold grw anyB; rw [List.range_succ,List.any_append]; simp
theorem grw_iff {S C:Nat→Bool} {k:Nat}:grw S C k=true↔∃ v,v / 64<k∧C v=true∧S v=false:=by
 unfold grw anyB
 rw [List.any_eq_true]
 constructor
 ·rintro ⟨j,hj,h⟩
  obtain ⟨v,h1,h2⟩:=newW_iff.1 h
  exact ⟨v,by rw [h1]; exact List.mem_range.1 hj,h2⟩
 ·rintro ⟨v,h1,h2⟩
  exact ⟨v / 64,List.mem_range.2 h1,newW_iff.2 ⟨v,rfl,h2⟩⟩
set_option maxHeartbeats 2000000 in
theorem m_Add {ix jx:List Nat} {D E:List Nat→Prop} (hD:D ix) (hE:E jx) {k:Nat} (S T:List Nat→Nat→Bool) (hk:k≤1000000) :
  ACallM B.P 133 ⟨[.sl ⟨1001,ix⟩ k,.sl ⟨1002,jx⟩ k],[(1001,famU D k S),(1002,famU E k T)],.bool (grw (S ix) (T jx) k),[(1001,famU D k (setF S ix (fun v=>S ix v||T jx v))),(1002,famU E k T)]⟩:=by
 have hkl:k≤maxLen:=by unfold maxLen; omega
 refine ACallM.enter B _ _ Tryz.func133 rfl rfl Tryz.ntmps133 Tryz.results133 rfl ?_ fun _=>?_
 ·refine zi (zi (fun jx h=>trivial) (zi (fun jx h=>trivial) zt)) (zi (zi hD (zi hE zt)) (zi (fun jx h=>h) (zi (fun jx h=>h) zt)))
 repeat (first|apply zq|apply zb|apply zk)
 apply zr;intro _
 repeat (first|apply zq|apply zb|apply zk)
 apply zr;intro _
 repeat (first|apply zq|apply zb|apply zk)
 apply zr;intro _
 repeat (first|apply zq|apply zb|apply zk)
 refine AWp.loop (fun j:Nat=>⟨[(0,.sl ⟨1001,ix⟩ k),(1,.sl ⟨1002,jx⟩ k),(5,.bool (grw (S ix) (T jx) j)),(8,.i64 k),(9,.i64 j)],[(1001,famU D k (setF S ix (upS (S ix) (T jx) j))),(1002,famU E k T)]⟩) (fun j=>j≤k) (fun j=>k - j) 0 (Nat.zero_le _) ?_ ?_
 ·refine zi ?_ (zi ⟨_,_,rfl,fun z hz=>⟨hz,_,_,rfl,rfl,fun i hi=>?_⟩⟩ (zi (fun z hz=>trivial) (zi ⟨_,_,rfl,fun z hz=>⟨hz,_,_,rfl,rfl,fun i hi=>rfl⟩⟩ (zi (fun z hz=>trivial) zt))))
  ·refine zi rfl (zi hD (zi rfl (zi hE ?_)))
   repeat' (first|exact rfl|exact zt|apply zi)
  ·by_cases e:z=ix
   ·subst e
    show bitC (setF S z _ z) i=bitC (S z) i
    rw [setF_same]
    exact congrArg (fun q=>[AV.int .u64 q]) (wrd_congr fun t ht=>by unfold upS; simp)
   ·exact congrArg (fun q=>bitC q i) (setF_ne e)
 intro j hj
 repeat (first|apply zq|apply zb|apply zk)
 apply zr;intro _
 repeat (first|apply zq|apply zb|apply zk)
 apply AWp.cond;apply zi<;>intro h1
 ·have hj':j<k:=zd h1
  repeat (first|apply zq|apply zb|apply zk)
  apply zr;intro _
  repeat (first|apply zq|apply zb|apply zk)
  refine AWp.draw mixed (by kernel_rfl) ?_
  repeat' apply zi
  all_goals first|exact fun _=>hD|exact fun _=>hE|exact fun _=>hj'|exact fun _=>(nn (hj'))|skip
  intro _
  repeat (first|apply zq|apply zb|apply zk)
  apply AWp.cond;apply zi<;>intro h2
  ·have hn:newW (S ix) (T jx) j=true:=by
    have h2:(bits .andNot .u64 (wrd (T jx) ((j:Int)).toNat) (wrd (setF S ix (upS (S ix) (T jx) j) ix) ((j:Int)).toNat) != 0)=true:=h2
    rw [setF_same,Int.toNat_natCast,wrd_andNot,up_word] at h2
    exact h2
   repeat (first|apply zq|apply zb|apply zk)
   refine AWp.quietP (.q 0 (.q 1 (.q 2 (.q 4 (.q 5 (.q 6 (.q 7 (.c 3 false (.q 8 (.q 9 (.c 10 true .fin .no))) .no)))))))) [0,1,2,4,5,6,7,8,9] [1002] mixed (by kernel_rfl) ?_
   repeat' (first|exact zt|apply zi)
   all_goals first|exact fun _=>hD|exact fun _=>hE|exact fun _=>hj'|exact fun _=>(nn (hj'))|exact hj'|skip
   intro _
   repeat (first|apply zq|apply zb|apply zk)
   apply zr;intro _
   repeat (first|apply zq|apply zb|apply zk)
   apply zr;intro _
   refine round_end (j+1) hj' ?_ (by omega)
   refine zi ?_ (zi ⟨_,_,rfl,fun z hz=>⟨hz,sub1_sel (fun e i hi=>?_) (fun e i hi=>?_)⟩⟩ (zi (fun z hz=>trivial) (zi ⟨_,_,rfl,fun z hz=>⟨hz,_,_,rfl,rfl,fun i hi=>rfl⟩⟩ (zi (fun z hz=>trivial) zt))))
   ·refine zi rfl (zi hD (zi rfl (zi hE (zi ?_ ?_))))
    ·rw [grw_succ,hn,Bool.or_true]; rfl
    ·repeat' (first|exact rfl|exact zt|exact zw hj' hkl|apply zi)
   ·subst e
    show bitC (setF S z _ z) i=if i=((j:Int)).toNat then [AV.int .u64 (bits .or .u64 (wrd (setF S z (upS (S z) (T jx) j) z) ((j:Int)).toNat) (wrd (T jx) ((j:Int)).toNat))] else bitC (setF S z (upS (S z) (T jx) j) z) i
    rw [setF_same,setF_same,Int.toNat_natCast]
    exact up_row
   ·show bitC (setF S ix _ z) i=bitC (setF S ix _ z) i
    rw [setF_ne e,setF_ne e]
  ·have hn:newW (S ix) (T jx) j=false:=by
    have h2:(bits .andNot .u64 (wrd (T jx) ((j:Int)).toNat) (wrd (setF S ix (upS (S ix) (T jx) j) ix) ((j:Int)).toNat) != 0)=false:=h2
    rw [setF_same,Int.toNat_natCast,wrd_andNot,up_word] at h2
    exact h2
   repeat (first|apply zq|apply zb|apply zk)
   apply zr;intro _
   refine round_end (j+1) hj' ?_ (by omega)
   refine zi ?_ (zi ⟨_,_,rfl,fun z hz=>⟨hz,_,_,rfl,rfl,fun i hi=>?_⟩⟩ (zi (fun z hz=>trivial) (zi ⟨_,_,rfl,fun z hz=>⟨hz,_,_,rfl,rfl,fun i hi=>rfl⟩⟩ (zi (fun z hz=>trivial) zt))))
   ·refine zi rfl (zi hD (zi rfl (zi hE (zi ?_ ?_))))
    ·rw [grw_succ,hn,Bool.or_false]; rfl
    ·repeat' (first|exact rfl|exact zt|exact zw hj' hkl|apply zi)
   ·show bitC (setF S ix _ z) i=bitC (setF S ix _ z) i
    by_cases e:z=ix
    ·subst e
     rw [setF_same,setF_same]
     exact up_same hn
    ·rw [setF_ne e,setF_ne e]
 ·have hj3:¬ (j:Int)<k:=of_decide_eq_false h1
  obtain rfl:j=k:=by omega
  apply ze
  repeat (first|apply zq|apply zb|apply zk)
  apply zr;intro _
  refine AWp.ret ⟨Or.inl rfl,?_⟩
  intro _
  refine zi rfl (zi zt (zi ⟨_,_,rfl,fun z hz=>⟨hz,_,_,rfl,rfl,fun i hi=>?_⟩⟩ (zi (fun z hz=>trivial) (zi ⟨_,_,rfl,fun z hz=>⟨hz,_,_,rfl,rfl,fun i hi=>rfl⟩⟩ (zi (fun z hz=>trivial) zt)))))
  show bitC (setF S ix _ z) i=bitC (setF S ix _ z) i
  by_cases e:z=ix
  ·subst e
   rw [setF_same,setF_same]
   exact up_all hi
  ·rw [setF_ne e,setF_ne e]
theorem c_List {k n:Nat} (S:Nat→Bool) (hn:∀ v,v<n→v / 64<k) (hm:n≤1000000):ACallIs B.P 115 [bitV k S,.i64 n] (natsL (lstS S n)):=by
 have hml:n≤maxLen:=by unfold maxLen; omega
 refine ACallIs.enter B _ _ Tryz.func115 rfl rfl Tryz.ntmps115 Tryz.results115 rfl fun _=>?_
 repeat (first|apply zq|apply zb|apply zk)
 apply zr;intro _
 repeat (first|apply zq|apply zb|apply zk)
 apply zr;intro _
 refine AWp.adopt 5 61 3 1 rfl rfl rfl ?_
 repeat (first|apply zq|apply zb|apply zk)
 apply zr;intro _
 repeat (first|apply zq|apply zb|apply zk)
 refine AWp.loop (fun j:Nat=>⟨[(0,bitV k S),(5,.sl 61 (lstS S j).length),(7,.i64 n),(8,.i64 j)],[(61,rowN (lstS S j))]⟩) (fun j=>j≤n) (fun j=>n - j) 0 (Nat.zero_le _) ?_ ?_
 ·refine zi ?_ (zi ⟨_,_,rfl,rfl,fun i hi=>absurd hi (Nat.not_lt_zero _)⟩ (zi zt zt))
  repeat' (first|exact rfl|exact zt|apply zi)
 intro j hj
 have hjl:=lstS_len (S:=S) j
 repeat (first|apply zq|apply zb|apply zk)
 apply zr;intro _
 repeat (first|apply zq|apply zb|apply zk)
 apply AWp.cond;apply zi<;>intro h1
 ·have hj':j<n:=zd h1
  repeat (first|apply zq|apply zb|apply zk)
  apply zr;intro _
  repeat (first|apply zq|apply zb|apply zk)
  apply zr
  refine CallX.pure (c_Has S (hn j hj') (by omega)) rfl rfl rfl ?_
  intro _
  repeat (first|apply zq|apply zb|apply zk)
  apply AWp.cond;apply zi<;>intro h2
  ·have e:lstS S (j+1)=lstS S j++[j]:=lstS_yes h2
   repeat (first|apply zq|apply zb|apply zk)
   apply zr
   repeat' apply zi
   all_goals first|exact rfl|exact Nat.le_refl _|(intro i hi; have e:i=0:=(by omega); subst e; exact rfl)|(show ((lstS S j).length+1) * 8≤_; omega)|skip
   intro _
   refine AWp.rename 17 61 rfl rfl ?_
   repeat (first|apply zq|apply zb|apply zk)
   apply zr;intro _
   refine round_end (j+1) hj' ?_ (by omega)
   rw [e]
   have hl:(lstS S j++[j]).length=(lstS S j).length+1:=by simp
   refine zi ?_ (zi ⟨_,_,rfl,hl.symm,fun i hi=>snocN_row hi⟩ (zi zt zt))
   rw [hl]
   repeat' (first|exact rfl|exact zt|exact zw hj' hml|apply zi)
  ·have e:lstS S (j+1)=lstS S j:=lstS_no h2
   repeat (first|apply zq|apply zb|apply zk)
   apply zr;intro _
   refine round_end (j+1) hj' ?_ (by omega)
   rw [e]
   refine zi ?_ (zi ⟨_,_,rfl,rfl,zg⟩ (zi zt zt))
   repeat' (first|exact rfl|exact zt|exact zw hj' hml|apply zi)
 ·have hj3:¬ (j:Int)<n:=of_decide_eq_false h1
  obtain rfl:j=n:=by omega
  apply ze
  refine AWp.freeze 61 (fun i=>natC ((lstS S j).getD i 0)) rfl (fun i hi=>rfl) ?_
  repeat (first|apply zq|apply zb|apply zk)
  apply zr;intro _
  refine AWp.ret ⟨Or.inl rfl,rfl,?_⟩
  intro _
  rfl
theorem empty_row {k:Nat} {f g:Nat→List AV} (h:k=0):∀ i,i<k→f i=g i:=fun i hi=>absurd hi (by omega)
@[reducible] def one1 (ix:List Nat):Prop:=ix=[]
@[reducible] def famO (k:Nat) (S:Nat→Bool):HO:=famU one1 k (fun _=>S)
set_option maxHeartbeats 1000000 in
theorem m_Clone {ix:List Nat} {D:List Nat→Prop} (hD:D ix) {k:Nat} (S:List Nat→Nat→Bool) (hk:k≤1000000) :
  ACallM B.P 134 ⟨[.sl ⟨1001,ix⟩ k],[(1001,famU D k S)],.sl ⟨7,[]⟩ k,[(7,famO k (S ix)),(1001,famU D k S)]⟩:=by
 refine ACallM.enter B _ _ Tryz.func134 rfl rfl Tryz.ntmps134 Tryz.results134 rfl ?_ fun _=>?_
 ·refine zi (zi (fun jx h=>trivial) zt) (zi (zi hD zt) (zi (fun jx h=>h) zt))
 rcases Nat.eq_zero_or_pos k with h0|h0
 ·subst h0
  refine AWp.reval 0 rfl fun A c=>?_
  repeat (first|apply zq|apply zb|apply zk)
  apply zr;intro _
  repeat (first|apply zq|apply zb|apply zk)
  apply zr;intro _
  repeat (first|apply zq|apply zb|apply zk)
  apply AWp.cond;apply zi<;>intro h
  ·repeat (first|apply zq|apply zb|apply zk)
   apply zr;intro _
   refine AWp.adopt 2 7 233 1 rfl rfl rfl ?_
   refine AWp.via some ⟨[(2,.sl ⟨7,[]⟩ 0)],[(7,famO 0 (S ix)),(1001,famU D 0 S)]⟩ ⟨?_,?_,fun a b c _ _ ha hb=>Option.some.inj (ha.trans hb.symm),fun a _ _=>rfl⟩ ?_
   ·repeat' (first|exact rfl|exact zt|apply zi)
   ·refine zi (fun ix h=>?_) (zi (fun ix h=>zi ⟨_,⟨_,rfl,rfl,h⟩,Or.inl ⟨_,rfl,zg⟩⟩ zt) zt)
    subst h
    exact zi ⟨_,⟨_,rfl,rfl,zt⟩,Or.inl ⟨_,rfl,empty_row rfl⟩⟩ zt
   refine AWp.ret ⟨Or.inl rfl,?_⟩
   intro _
   exact zi rfl (zi rfl (zi ⟨_,_,rfl,fun z hz=>⟨hz,_,_,rfl,rfl,fun i hi=>rfl⟩⟩ (zi (fun z hz=>trivial) (zi ⟨_,_,rfl,fun z hz=>⟨hz,_,_,rfl,rfl,fun i hi=>rfl⟩⟩ (zi (fun z hz=>trivial) zt)))))
  ·repeat (first|apply zq|apply zb|apply zk)
   apply zr
   refine zi rfl (zi (by decide) ?_)
   intro _
   refine AWp.via some ⟨[(2,.sl ⟨7,[]⟩ 0)],[(7,famO 0 (S ix)),(1001,famU D 0 S)]⟩ ⟨?_,?_,fun a b c _ _ ha hb=>Option.some.inj (ha.trans hb.symm),fun a _ _=>rfl⟩ ?_
   ·repeat' (first|exact rfl|exact zt|apply zi)
   ·refine zi (fun ix h=>?_) (zi (fun ix h=>zi ⟨_,⟨_,rfl,rfl,h⟩,Or.inl ⟨_,rfl,zg⟩⟩ zt) zt)
    subst h
    exact zi ⟨_,⟨_,rfl,rfl,zt⟩,Or.inl ⟨_,rfl,empty_row rfl⟩⟩ zt
   refine AWp.ret ⟨Or.inl rfl,?_⟩
   intro _
   exact zi rfl (zi rfl (zi ⟨_,_,rfl,fun z hz=>⟨hz,_,_,rfl,rfl,fun i hi=>rfl⟩⟩ (zi (fun z hz=>trivial) (zi ⟨_,_,rfl,fun z hz=>⟨hz,_,_,rfl,rfl,fun i hi=>rfl⟩⟩ (zi (fun z hz=>trivial) zt)))))
 ·repeat (first|apply zq|apply zb|apply zk)
  apply zr;intro _
  repeat (first|apply zq|apply zb|apply zk)
  apply zr
  refine zi (fun _=>h0) ?_
  intro _
  repeat (first|apply zq|apply zb|apply zk)
  apply AWp.cond;apply zi<;>intro h
  ·cases h
  ·repeat (first|apply zq|apply zb|apply zk)
   apply zr
   repeat' apply zi
   all_goals first|exact fun _=>hD|exact Nat.le_refl _|exact rfl|exact (fun i hi=>rfl)|(show (0+k) * 8≤_; omega)|skip
   intro _
   refine AWp.reread 2 (.sl 7 k) rfl (fun F τ w v h=>by rw [Nat.zero_add] at h; exact h) ?_
   refine AWp.weaken (s':=⟨[(2,.sl ⟨7,[]⟩ k)],[(7,rowU k (S ix)),(1001,famU D k S)]⟩) ?_ ?_
   ·refine zi ?_ (zi ⟨_,_,rfl,Nat.zero_add k,fun i hi=>rfl⟩ (zi zt (zi ⟨_,_,rfl,fun z hz=>⟨hz,_,_,rfl,rfl,fun i hi=>rfl⟩⟩ (zi (fun z hz=>trivial) zt))))
    repeat' (first|exact rfl|exact zt|apply zi)
   refine AWp.via some ⟨[(2,.sl ⟨7,[]⟩ k)],[(7,famO k (S ix)),(1001,famU D k S)]⟩ ⟨?_,?_,fun a b c _ _ ha hb=>Option.some.inj (ha.trans hb.symm),fun a _ _=>rfl⟩ ?_
   ·repeat' (first|exact rfl|exact zt|apply zi)
   ·refine zi (fun ix h=>?_) (zi (fun ix h=>zi ⟨_,⟨_,rfl,rfl,h⟩,Or.inl ⟨_,rfl,zg⟩⟩ zt) zt)
    subst h
    exact zi ⟨_,⟨_,rfl,rfl,zt⟩,Or.inl ⟨_,rfl,zg⟩⟩ zt
   refine AWp.ret ⟨Or.inl rfl,?_⟩
   intro _
   exact zi rfl (zi rfl (zi ⟨_,_,rfl,fun z hz=>⟨hz,_,_,rfl,rfl,fun i hi=>rfl⟩⟩ (zi (fun z hz=>trivial) (zi ⟨_,_,rfl,fun z hz=>⟨hz,_,_,rfl,rfl,fun i hi=>rfl⟩⟩ (zi (fun z hz=>trivial) zt)))))
theorem m_PutZ {ix:List Nat} {D:List Nat→Prop} (hD:D ix) {k v:Nat} (S:List Nat→Nat→Bool) {z:Int} (hz:(v:Int)=z) (hv:v / 64<k) (hm:v≤1000000) :
  ACallM B.P 132 ⟨[.sl ⟨1001,ix⟩ k,.i64 z],[(1001,famU D k S)],.tup [],[(1001,famU D k (setF S ix (putS (S ix) v)))]⟩:=by
 subst hz; exact m_Put hD S hv hm
end Go.Proofs.YtbmccmbgnkbmiaaGreat

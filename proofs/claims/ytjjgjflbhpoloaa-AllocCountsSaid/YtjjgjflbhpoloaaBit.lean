/- Sets of values as words of 64 bits: plain facts; contracts of live's sets. -/
import Derived.Test.YtjjgjflbhpoloaaLow
import Derived.Laws.Bits64b
import Derived.Test.YtjjgjflbhpoloaaQui
import Derived.Test.YtjjgjflbhpoloaaFlw
set_option linter.unusedVariables false
set_option linter.unusedSimpArgs false
/- Plain: sets of numbers as words of 64 bits. Condition: none. -/
namespace Go.Proofs.Ytjjgjflbhpoloaa
open Go Go.Abs Go.RowKit
def wN (S : Nat → Bool) (i : Nat) : Nat → Nat
 | 0 => 0
 | k + 1 => 2 ^ k * (S (64 * i + k)).toNat + wN S i k
def wrd (S : Nat → Bool) (i : Nat) : Int := ((wN S i 64 : Nat) : Int)
section
variable {S T U : Nat → Bool} {i : Nat}
theorem wN_lt : ∀ k, wN S i k < 2 ^ k
 | 0 => by simp [wN]
 | k + 1 => by
  have := wN_lt k
  unfold wN
  rw [Nat.pow_succ]
  cases S (64 * i + k) <;> simp <;> omega
theorem wN_bit : ∀ k j, (wN S i k).testBit j = (decide (j < k) && S (64 * i + j))
 | 0, j => by simp [wN]
 | k + 1, j => by
  have hl := wN_lt (S := S) (i := i) k
  have ih := wN_bit k j
  unfold wN
  cases hs : S (64 * i + k) with
  | false =>
   simp only [Bool.toNat_false, Nat.mul_zero, Nat.zero_add, ih]
   by_cases e : j = k
   ·subst e; simp [hs]
   ·by_cases h : j < k
    ·simp [h, Nat.lt_succ_of_lt h]
    ·simp [h, show ¬ j < k + 1 by omega]
  | true =>
   simp only [Bool.toNat_true, Nat.mul_one]
   by_cases e : j = k
   ·subst e; rw [Nat.testBit_two_pow_add_eq, ih]; simp [hs]
   ·by_cases h : j < k
    ·rw [Nat.testBit_two_pow_add_gt h, ih]; simp [h, Nat.lt_succ_of_lt h]
    ·have h2 : k < j := by omega
     have : 2 ^ k + wN S i k < 2 ^ j := by
      have h3 : 2 ^ (k + 1) ≤ 2 ^ j := Nat.pow_le_pow_right (by decide) h2
      rw [Nat.pow_succ] at h3; omega
     rw [Nat.testBit_lt_two_pow this]; simp [show ¬ j < k + 1 by omega]
end
attribute [irreducible] wN
section
variable {S T U : Nat → Bool} {i : Nat}
theorem wN_big : wN S i 64 < 18446744073709551616 := wN_lt (S := S) (i := i) 64
theorem wN_eq {n : Nat} (hn : n < 18446744073709551616) (h : ∀ j, j < 64 → n.testBit j = S (64 * i + j)) : (n : Int) = wrd S i := by
 unfold wrd
 congr 1
 refine Nat.eq_of_testBit_eq fun j => ?_
 rw [wN_bit]
 by_cases hj : j < 64
 ·rw [h j hj]; simp [hj]
 ·rw [Nat.testBit_lt_two_pow (Nat.lt_of_lt_of_le hn (Nat.pow_le_pow_right (Nat.zero_lt_succ 1) (show 64 ≤ j by omega)) : n < 2 ^ j)]
  simp [hj]
theorem wrd_congr (h : ∀ j, j < 64 → S (64 * i + j) = T (64 * i + j)) : wrd S i = wrd T i :=
 wN_eq wN_big fun j hj => by rw [wN_bit]; simp [hj, h j hj]
theorem wrd_or : bits .or .u64 (wrd S i) (wrd T i) = wrd (fun v => S v || T v) i := by
 unfold wrd
 rw [bits_or_u64_nat _ _ wN_big wN_big]
 refine wN_eq (Nat.or_lt_two_pow (n := 64) wN_big wN_big) fun j hj => ?_
 rw [Nat.testBit_or, wN_bit, wN_bit]; simp [hj]
theorem wrd_and : bits .and .u64 (wrd S i) (wrd T i) = wrd (fun v => S v && T v) i := by
 unfold wrd
 rw [bits_and_u64_nat _ _ wN_big wN_big]
 refine wN_eq (Nat.and_lt_two_pow (n := 64) _ wN_big) fun j hj => ?_
 rw [Nat.testBit_and, wN_bit, wN_bit]; simp [hj]
theorem bits_andNot_u64_nat (a b : Nat) (ha : a < 18446744073709551616) (hb : b < 18446744073709551616) :
  bits .andNot .u64 (a : Int) (b : Int) = ((a &&& (18446744073709551616 - 1 - b) : Nat) : Int) := by
 have hx : a &&& (18446744073709551616 - 1 - b) < 2 ^ 64 := Nat.and_lt_two_pow _ (by omega)
 have h1 : (BitVec.ofInt 64 (a : Int)).toNat = a := by
  rw [BitVec.ofInt_natCast, BitVec.toNat_ofNat]; exact Nat.mod_eq_of_lt (by omega)
 have h2 : (BitVec.ofInt 64 (b : Int)).toNat = b := by
  rw [BitVec.ofInt_natCast, BitVec.toNat_ofNat]; exact Nat.mod_eq_of_lt (by omega)
 show IntKind.u64.wrap ((BitVec.ofInt 64 (a : Int) &&& ~~~ BitVec.ofInt 64 (b : Int)).toNat : Int) = _
 rw [BitVec.toNat_and, BitVec.toNat_not, h1, h2, IntKind.wrap_u64]
 have e : (2 : Nat) ^ 64 = 18446744073709551616 := rfl
 rw [e]
 have hx' : a &&& (18446744073709551616 - 1 - b) < 18446744073709551616 := hx
 omega
theorem wrd_andNot : bits .andNot .u64 (wrd S i) (wrd T i) = wrd (fun v => S v && !T v) i := by
 unfold wrd
 rw [bits_andNot_u64_nat _ _ wN_big wN_big]
 refine wN_eq (Nat.and_lt_two_pow (n := 64) _ (by omega)) fun j hj => ?_
 have h2 : (18446744073709551616 - 1 - wN T i 64).testBit j = (decide (j < 64) && !(wN T i 64).testBit j) := by
  have := Nat.testBit_two_pow_sub_succ (n := 64) (x := wN T i 64) wN_big j
  rw [← this]
  congr 1
  have e : (2 : Nat) ^ 64 = 18446744073709551616 := rfl
  have := wN_big (S := T) (i := i)
  omega
 rw [Nat.testBit_and, h2, wN_bit, wN_bit]; simp [hj]
def oneS (v : Nat) : Nat → Bool := fun u => decide (u = v)
theorem one_bit (v : Nat) : IntKind.u64.wrap (1 * 2 ^ min ((v % 64 : Nat) : Int).toNat IntKind.u64.bits) = wrd (oneS v) (v / 64) := by
 have hm : min ((v % 64 : Nat) : Int).toNat IntKind.u64.bits = v % 64 := by
  have e : IntKind.u64.bits = 64 := rfl
  rw [e, Int.toNat_natCast]; omega
 have hp : 2 ^ (v % 64) < 18446744073709551616 := Nat.pow_lt_pow_right (by decide) (show v % 64 < 64 by omega)
 rw [hm, Int.one_mul, IntKind.wrap_u64]
 have hc : ((2 : Int) ^ (v % 64)) = (((2 : Nat) ^ (v % 64) : Nat) : Int) := (Int.natCast_pow 2 (v % 64)).symm
 rw [hc]
 generalize hg : (2 : Nat) ^ (v % 64) = g at hp
 have : ((g : Int) % 18446744073709551616) = (g : Int) := by omega
 rw [this]
 subst hg
 refine wN_eq hp fun j hj => ?_
 unfold oneS
 rw [Nat.testBit_two_pow]
 by_cases e : v % 64 = j
 ·subst e; simp; omega
 ·simp [e]; omega
theorem has_bit (v : Nat) : bits .and .u64 ((wrd S (v / 64)).fdiv (2 ^ min ((v % 64 : Nat) : Int).toNat IntKind.u64.bits)) 1 = if S v = true then 1 else 0 := by
 have hm : min ((v % 64 : Nat) : Int).toNat IntKind.u64.bits = v % 64 := by
  have e : IntKind.u64.bits = 64 := rfl
  rw [e, Int.toNat_natCast]; omega
 have hc : ((2 : Int) ^ (v % 64)) = (((2 : Nat) ^ (v % 64) : Nat) : Int) := (Int.natCast_pow 2 (v % 64)).symm
 unfold wrd
 rw [hm, hc, Int.fdiv_eq_ediv_of_nonneg _ (Int.natCast_nonneg _), ← Int.natCast_ediv]
 have hlt : wN S (v / 64) 64 / 2 ^ (v % 64) < 18446744073709551616 := Nat.lt_of_le_of_lt (Nat.div_le_self _ _) wN_big
 have := bits_and_u64_nat (wN S (v / 64) 64 / 2 ^ (v % 64)) 1 hlt (by decide)
 rw [show ((1 : Nat) : Int) = 1 from rfl] at this
 rw [this, Nat.and_one_is_mod]
 have hb := wN_bit (S := S) (i := v / 64) 64 (v % 64)
 rw [Nat.testBit_eq_decide_div_mod_eq, show 64 * (v / 64) + v % 64 = v by omega] at hb
 have h64 : v % 64 < 64 := by omega
 simp only [h64, decide_true, Bool.true_and] at hb
 cases hS : S v with
 | true => rw [hS] at hb; have h1 := of_decide_eq_true hb; rw [h1]; rfl
 | false =>
  rw [hS] at hb
  have h1 := of_decide_eq_false hb
  have h2 : wN S (v / 64) 64 / 2 ^ (v % 64) % 2 = 0 := by omega
  rw [h2]; rfl
theorem wrd_zero : wrd S i = 0 ↔ ∀ j, j < 64 → S (64 * i + j) = false := by
 constructor
 ·intro h j hj
  have h0 : wN S i 64 = 0 := by unfold wrd at h; omega
  have := wN_bit (S := S) (i := i) 64 j
  rw [h0] at this; simpa [hj] using this.symm
 ·intro h
  have : wrd S i = wrd (fun _ => false) i := wrd_congr h
  rw [this]
  have h2 : ((0 : Nat) : Int) = wrd (fun _ => false) i := wN_eq (by decide) fun j hj => by simp
  exact h2.symm
theorem wrd_inj : wrd S i = wrd T i ↔ ∀ j, j < 64 → S (64 * i + j) = T (64 * i + j) := by
 refine ⟨fun h j hj => ?_, wrd_congr⟩
 have h0 : wN S i 64 = wN T i 64 := by unfold wrd at h; omega
 have h1 := wN_bit (S := S) (i := i) 64 j
 have h2 := wN_bit (S := T) (i := i) 64 j
 rw [h0, h2] at h1; simpa [hj] using h1.symm
end
def putS (S : Nat → Bool) (v : Nat) : Nat → Bool := fun u => S u || decide (u = v)
def dropS (S : Nat → Bool) (v : Nat) : Nat → Bool := fun u => S u && !decide (u = v)
theorem word_div {v : Nat} : ((v : Nat) : Int).tdiv 64 = ((v / 64 : Nat) : Int) := by
 rw [Int.tdiv_eq_ediv_of_nonneg (by omega)]; omega
theorem word_mod {v : Nat} : ((v : Nat) : Int).tmod 64 = ((v % 64 : Nat) : Int) := by
 rw [Int.tmod_eq_emod_of_nonneg (by omega)]; omega
theorem put_row {S : Nat → Bool} {v i : Nat} : [AV.int .u64 (wrd (putS S v) i)] = if i = v / 64 then [AV.int .u64 (bits .or .u64 (wrd S (v / 64)) (wrd (oneS v) (v / 64)))] else [AV.int .u64 (wrd S i)] := by
 by_cases e : i = v / 64
 ·subst e; rw [if_pos rfl, wrd_or]; rfl
 ·rw [if_neg e]
  exact congrArg (fun z => [AV.int .u64 z]) (wrd_congr fun j hj => by unfold putS; rw [decide_eq_false (by omega), Bool.or_false])
theorem drop_row {S : Nat → Bool} {v i : Nat} : [AV.int .u64 (wrd (dropS S v) i)] = if i = v / 64 then [AV.int .u64 (bits .andNot .u64 (wrd S (v / 64)) (wrd (oneS v) (v / 64)))] else [AV.int .u64 (wrd S i)] := by
 by_cases e : i = v / 64
 ·subst e; rw [if_pos rfl, wrd_andNot]; rfl
 ·rw [if_neg e]
  exact congrArg (fun z => [AV.int .u64 z]) (wrd_congr fun j hj => by unfold dropS; rw [decide_eq_false (by omega)]; simp)
@[reducible] def bitC (S : Nat → Bool) (i : Nat) : List AV := [.int .u64 (wrd S i)]
@[reducible] def nW (n : Nat) : Nat := (n + 63) / 64
end Go.Proofs.Ytjjgjflbhpoloaa
/- Contracts of live's sets of values: Has, Put, Drop, Add, List, fresh, Clone. Condition: numbers that have a word. -/
namespace Go.Proofs.Ytjjgjflbhpoloaa
open Go Go.Abs Go.RowKit
def nonS : Nat → Bool := fun _ => false
@[reducible] def rowU (k : Nat) (S : Nat → Bool) : HO := .row 172 1 k (bitC S)
@[reducible] def famU (D : List Nat → Prop) (k : Nat) (S : List Nat → Nat → Bool) : HO := .fam D (fun jx => rowU k (S jx))
theorem w_div {v : Nat} (hm : v ≤ 4000000) : IntKind.i64.wrap (((v : Nat) : Int).tdiv 64) = ((v / 64 : Nat) : Int) := by rw [word_div]; exact wrap_in (by omega) (by omega)
theorem one_bit' {v : Nat} : IntKind.u64.wrap (1 * 2 ^ min ((v : Int).tmod 64).toNat IntKind.u64.bits) = wrd (oneS v) (v / 64) := by rw [word_mod]; exact one_bit v
theorem has_bit' {v : Nat} {S : Nat → Bool} : (bits .and .u64 ((wrd S (v / 64)).fdiv (2 ^ min ((v : Int).tmod 64).toNat IntKind.u64.bits)) 1 == 1) = S v := by
 rw [word_mod, has_bit]
 cases S v <;> rfl
theorem mod_nn {v : Nat} : 0 ≤ ((v : Nat) : Int).tmod 64 := by rw [word_mod]; omega
def setF (S : List Nat → Nat → Bool) (ix : List Nat) (R : Nat → Bool) : List Nat → Nat → Bool := fun z => if z = ix then R else S z
theorem setF_same {S : List Nat → Nat → Bool} {ix : List Nat} {R : Nat → Bool} : setF S ix R ix = R := if_pos rfl
theorem setF_ne {S : List Nat → Nat → Bool} {ix jx : List Nat} {R : Nat → Bool} (h : jx ≠ ix) : setF S ix R jx = S jx := if_neg h
theorem sub1_sel {e e' esz esz' n : Nat} {f g h : Nat → List AV} {jx ix : List Nat} (h1 : jx = ix → ∀ i, i < n → h i = f i) (h2 : jx ≠ ix → ∀ i, i < n → h i = g i) : sub1 (HO.sel (decide (jx = ix)) (.row e' esz' n f) (.row e esz n g)) (.row e esz n h) := by
 by_cases q : jx = ix
 ·rw [decide_eq_true q]; exact ⟨_, _, rfl, rfl, fun i hi => h1 q i hi⟩
 ·rw [decide_eq_false q]; exact ⟨_, _, rfl, rfl, fun i hi => h2 q i hi⟩
set_option maxHeartbeats 1000000 in
theorem m_Put {ix : List Nat} {D : List Nat → Prop} (hD : D ix) {k v : Nat} (S : List Nat → Nat → Bool) (hv : v / 64 < k) (hm : v ≤ 1000000) :
  ACallM B.P 97 ⟨[.sl ⟨1001, ix⟩ k, .i64 v], [(1001, famU D k S)], .tup [], [(1001, famU D k (setF S ix (putS (S ix) v)))]⟩ := by
 have hd := w_div (v := v) (by omega)
 refine ACallM.enter B _ _ Try.func97 rfl rfl Try.ntmps97 Try.results97 rfl ?_ fun hreal => ?_
 ·refine And.intro (And.intro (fun jx h => trivial) trivial) (And.intro (And.intro hD (And.intro trivial trivial)) (And.intro (fun jx h => h) trivial))
 clear hreal
 repeat (first|apply zq|apply zb|apply zk)
 refine AWp.quietP (.q 0 (.q 1 (.q 2 (.q 3 (.q 5 (.q 6 (.q 7 (.c 4 false (.q 8 (.q 9 (.c 10 true .fin .no))) .no)))))))) [0, 1, 2, 3, 5, 6, 7, 8, 9] [] mixed (by kernel_rfl) ?_
 repeat' refine And.intro ?_ ?_
 all_goals first|exact (by decide : (64 : Int) ≠ 0)|exact mod_nn|exact fun _ => mod_nn|exact fun _ => hD|exact fun _ => (by rw [hd]; omega)|exact (by rw [hd]; omega : (IntKind.i64.wrap ((v : Int).tdiv 64)).toNat < k)|exact trivial|skip
 intro _
 refine ⟨Or.inr rfl, ?_⟩
 intro _
 refine And.intro rfl (And.intro trivial (And.intro ⟨_, _, rfl, fun jx hD => ⟨hD, sub1_sel (fun e i hi => ?_) (fun e i hi => congrArg (fun z => bitC z i) (setF_ne e))⟩⟩ (And.intro (fun jx hD => trivial) trivial)))
 subst e
 show bitC (setF S jx (putS (S jx) v) jx) i = _
 rw [setF_same, hd, Int.toNat_natCast, one_bit']
 exact put_row
set_option maxHeartbeats 1000000 in
theorem m_Drop {ix : List Nat} {D : List Nat → Prop} (hD : D ix) {k v : Nat} (S : List Nat → Nat → Bool) (hv : v / 64 < k) (hm : v ≤ 1000000) :
  ACallM B.P 96 ⟨[.sl ⟨1001, ix⟩ k, .i64 v], [(1001, famU D k S)], .tup [], [(1001, famU D k (setF S ix (dropS (S ix) v)))]⟩ := by
 have hd := w_div (v := v) (by omega)
 refine ACallM.enter B _ _ Try.func96 rfl rfl Try.ntmps96 Try.results96 rfl ?_ fun hreal => ?_
 ·refine And.intro (And.intro (fun jx h => trivial) trivial) (And.intro (And.intro hD (And.intro trivial trivial)) (And.intro (fun jx h => h) trivial))
 clear hreal
 repeat (first|apply zq|apply zb|apply zk)
 refine AWp.quietP (.q 0 (.q 1 (.q 2 (.q 3 (.q 5 (.q 6 (.q 7 (.c 4 false (.q 8 (.q 9 (.c 10 true .fin .no))) .no)))))))) [0, 1, 2, 3, 5, 6, 7, 8, 9] [] mixed (by kernel_rfl) ?_
 repeat' refine And.intro ?_ ?_
 all_goals first|exact (by decide : (64 : Int) ≠ 0)|exact mod_nn|exact fun _ => mod_nn|exact fun _ => hD|exact fun _ => (by rw [hd]; omega)|exact (by rw [hd]; omega : (IntKind.i64.wrap ((v : Int).tdiv 64)).toNat < k)|exact trivial|skip
 intro _
 refine ⟨Or.inr rfl, ?_⟩
 intro _
 refine And.intro rfl (And.intro trivial (And.intro ⟨_, _, rfl, fun jx hD => ⟨hD, sub1_sel (fun e i hi => ?_) (fun e i hi => congrArg (fun z => bitC z i) (setF_ne e))⟩⟩ (And.intro (fun jx hD => trivial) trivial)))
 subst e
 show bitC (setF S jx (dropS (S jx) v) jx) i = _
 rw [setF_same, hd, Int.toNat_natCast, one_bit']
 exact drop_row
theorem m_HasF {ix : List Nat} {D : List Nat → Prop} (hD : D ix) {k v : Nat} (S : List Nat → Nat → Bool) (hv : v / 64 < k) (hm : v ≤ 1000000) :
  ACallM B.P 77 ⟨[.sl ⟨1001, ix⟩ k, .i64 v], [(1001, famU D k S)], .bool (S ix v), [(1001, famU D k S)]⟩ := by
 have hd := w_div (v := v) (by omega)
 refine ACallM.enter B _ _ Try.func77 rfl rfl Try.ntmps77 Try.results77 rfl ?_ fun hreal => ?_
 ·refine And.intro (And.intro (fun jx h => trivial) trivial) (And.intro (And.intro hD (And.intro trivial trivial)) (And.intro (fun jx h => h) trivial))
 clear hreal
 repeat (first|apply zq|apply zb|apply zk)
 apply zr
 intro _
 repeat (first|apply zq|apply zb|apply zk)
 apply zr
 repeat' refine And.intro ?_ ?_
 all_goals first|exact (by decide : (64 : Int) ≠ 0)|exact mod_nn|exact fun _ => mod_nn|exact fun _ => hD|exact fun _ => (by rw [hd]; omega)|skip
 intro _
 refine AWp.ret ⟨Or.inl rfl, ?_⟩
 intro _
 refine And.intro ?_ (And.intro trivial (And.intro ⟨_, _, rfl, fun jx hD => ⟨hD, _, _, rfl, rfl, fun i hi => rfl⟩⟩ (And.intro (fun jx hD => trivial) trivial)))
 show tupOf [AV.bool (bits .and .u64 ((wrd (S ix) (IntKind.i64.wrap ((v : Int).tdiv 64)).toNat).fdiv (2 ^ min ((v : Int).tmod 64).toNat IntKind.u64.bits)) 1 == 1)] = .bool (S ix v)
 rw [hd, Int.toNat_natCast, has_bit']
 rfl
theorem empty_row {k : Nat} {f g : Nat → List AV} (h : k = 0) : ∀ i, i < k → f i = g i := fun i hi => absurd hi (by omega)
@[reducible] def one1 (ix : List Nat) : Prop := ix = []
@[reducible] def famO (k : Nat) (S : Nat → Bool) : HO := famU one1 k (fun _ => S)
set_option maxHeartbeats 1000000 in
theorem m_Clone {ix : List Nat} {D : List Nat → Prop} (hD : D ix) {k : Nat} (S : List Nat → Nat → Bool) (hk : k ≤ 1000000) :
  ACallM B.P 93 ⟨[.sl ⟨1001, ix⟩ k], [(1001, famU D k S)], .sl ⟨7, []⟩ k, [(7, famO k (S ix)), (1001, famU D k S)]⟩ := by
 refine ACallM.enter B _ _ Try.func93 rfl rfl Try.ntmps93 Try.results93 rfl ?_ fun hreal => ?_
 ·refine And.intro (And.intro (fun jx h => trivial) trivial) (And.intro (And.intro hD trivial) (And.intro (fun jx h => h) trivial))
 clear hreal
 rcases Nat.eq_zero_or_pos k with h0 | h0
 ·subst h0
  refine AWp.reval 0 rfl fun A c => ?_
  repeat (first|apply zq|apply zb|apply zk)
  apply zr
  intro _
  repeat (first|apply zq|apply zb|apply zk)
  apply zr
  intro _
  repeat (first|apply zq|apply zb|apply zk)
  refine AWp.cond (And.intro (fun h => ?_) (fun h => ?_))
  ·repeat (first|apply zq|apply zb|apply zk)
   apply zr
   intro _
   refine AWp.adopt 2 7 172 1 rfl rfl rfl ?_
   refine AWp.via some ⟨[(2, .sl ⟨7, []⟩ 0)], [(7, famO 0 (S ix)), (1001, famU D 0 S)]⟩ ⟨?_, ?_, fun a b c _ _ ha hb => Option.some.inj (ha.trans hb.symm), fun a _ _ => rfl⟩ ?_
   ·repeat' (first|exact rfl|exact trivial|refine And.intro ?_ ?_)
   ·refine And.intro (fun ix h => ?_) (And.intro (fun ix h => And.intro ⟨_, ⟨_, rfl, rfl, h⟩, Or.inl ⟨_, rfl, fun i hi => rfl⟩⟩ trivial) trivial)
    subst h
    exact And.intro ⟨_, ⟨_, rfl, rfl, trivial⟩, Or.inl ⟨_, rfl, empty_row rfl⟩⟩ trivial
   refine AWp.ret ⟨Or.inl rfl, ?_⟩
   intro _
   exact And.intro rfl (And.intro rfl (And.intro ⟨_, _, rfl, fun z hz => ⟨hz, _, _, rfl, rfl, fun i hi => rfl⟩⟩ (And.intro (fun z hz => trivial) (And.intro ⟨_, _, rfl, fun z hz => ⟨hz, _, _, rfl, rfl, fun i hi => rfl⟩⟩ (And.intro (fun z hz => trivial) trivial)))))
  ·repeat (first|apply zq|apply zb|apply zk)
   apply zr
   refine And.intro rfl (And.intro (by decide) ?_)
   intro _
   refine AWp.via some ⟨[(2, .sl ⟨7, []⟩ 0)], [(7, famO 0 (S ix)), (1001, famU D 0 S)]⟩ ⟨?_, ?_, fun a b c _ _ ha hb => Option.some.inj (ha.trans hb.symm), fun a _ _ => rfl⟩ ?_
   ·repeat' (first|exact rfl|exact trivial|refine And.intro ?_ ?_)
   ·refine And.intro (fun ix h => ?_) (And.intro (fun ix h => And.intro ⟨_, ⟨_, rfl, rfl, h⟩, Or.inl ⟨_, rfl, fun i hi => rfl⟩⟩ trivial) trivial)
    subst h
    exact And.intro ⟨_, ⟨_, rfl, rfl, trivial⟩, Or.inl ⟨_, rfl, empty_row rfl⟩⟩ trivial
   refine AWp.ret ⟨Or.inl rfl, ?_⟩
   intro _
   exact And.intro rfl (And.intro rfl (And.intro ⟨_, _, rfl, fun z hz => ⟨hz, _, _, rfl, rfl, fun i hi => rfl⟩⟩ (And.intro (fun z hz => trivial) (And.intro ⟨_, _, rfl, fun z hz => ⟨hz, _, _, rfl, rfl, fun i hi => rfl⟩⟩ (And.intro (fun z hz => trivial) trivial)))))
 ·repeat (first|apply zq|apply zb|apply zk)
  apply zr
  intro _
  repeat (first|apply zq|apply zb|apply zk)
  apply zr
  refine And.intro (fun _ => h0) ?_
  intro _
  repeat (first|apply zq|apply zb|apply zk)
  refine AWp.cond (And.intro (fun h => ?_) (fun h => ?_))
  ·cases h
  ·repeat (first|apply zq|apply zb|apply zk)
   apply zr
   repeat' refine And.intro ?_ ?_
   all_goals first|exact fun _ => hD|exact Nat.le_refl _|exact rfl|exact (fun i hi => rfl)|(show (0 + k) * 8 ≤ _; omega)|skip
   intro _
   refine AWp.reread 2 (.sl 7 k) rfl (fun F τ w v h => by rw [Nat.zero_add] at h; exact h) ?_
   refine AWp.weaken (s' := ⟨[(2, .sl ⟨7, []⟩ k)], [(7, rowU k (S ix)), (1001, famU D k S)]⟩) ?_ ?_
   ·refine And.intro ?_ (And.intro ⟨_, _, rfl, Nat.zero_add k, fun i hi => rfl⟩ (And.intro trivial (And.intro ⟨_, _, rfl, fun z hz => ⟨hz, _, _, rfl, rfl, fun i hi => rfl⟩⟩ (And.intro (fun z hz => trivial) trivial))))
    repeat' (first|exact rfl|exact trivial|refine And.intro ?_ ?_)
   refine AWp.via some ⟨[(2, .sl ⟨7, []⟩ k)], [(7, famO k (S ix)), (1001, famU D k S)]⟩ ⟨?_, ?_, fun a b c _ _ ha hb => Option.some.inj (ha.trans hb.symm), fun a _ _ => rfl⟩ ?_
   ·repeat' (first|exact rfl|exact trivial|refine And.intro ?_ ?_)
   ·refine And.intro (fun ix h => ?_) (And.intro (fun ix h => And.intro ⟨_, ⟨_, rfl, rfl, h⟩, Or.inl ⟨_, rfl, fun i hi => rfl⟩⟩ trivial) trivial)
    subst h
    exact And.intro ⟨_, ⟨_, rfl, rfl, trivial⟩, Or.inl ⟨_, rfl, fun i hi => rfl⟩⟩ trivial
   refine AWp.ret ⟨Or.inl rfl, ?_⟩
   intro _
   exact And.intro rfl (And.intro rfl (And.intro ⟨_, _, rfl, fun z hz => ⟨hz, _, _, rfl, rfl, fun i hi => rfl⟩⟩ (And.intro (fun z hz => trivial) (And.intro ⟨_, _, rfl, fun z hz => ⟨hz, _, _, rfl, rfl, fun i hi => rfl⟩⟩ (And.intro (fun z hz => trivial) trivial)))))
theorem m_PutZ {ix : List Nat} {D : List Nat → Prop} (hD : D ix) {k v : Nat} (S : List Nat → Nat → Bool) {z : Int} (hz : (v : Int) = z) (hv : v / 64 < k) (hm : v ≤ 1000000) :
  ACallM B.P 97 ⟨[.sl ⟨1001, ix⟩ k, .i64 z], [(1001, famU D k S)], .tup [], [(1001, famU D k (setF S ix (putS (S ix) v)))]⟩ := by
 subst hz; exact m_Put hD S hv hm
theorem m_DropZ {ix : List Nat} {D : List Nat → Prop} (hD : D ix) {k v : Nat} (S : List Nat → Nat → Bool) {z : Int} (hz : (v : Int) = z) (hv : v / 64 < k) (hm : v ≤ 1000000) :
  ACallM B.P 96 ⟨[.sl ⟨1001, ix⟩ k, .i64 z], [(1001, famU D k S)], .tup [], [(1001, famU D k (setF S ix (dropS (S ix) v)))]⟩ := by
 subst hz; exact m_Drop hD S hv hm
theorem m_HasZ {ix : List Nat} {D : List Nat → Prop} (hD : D ix) {k v : Nat} (S : List Nat → Nat → Bool) {z : Int} (hz : (v : Int) = z) (hv : v / 64 < k) (hm : v ≤ 1000000) :
  ACallM B.P 77 ⟨[.sl ⟨1001, ix⟩ k, .i64 z], [(1001, famU D k S)], .bool (S ix v), [(1001, famU D k S)]⟩ := by
 subst hz; exact m_HasF hD S hv hm
end Go.Proofs.Ytjjgjflbhpoloaa

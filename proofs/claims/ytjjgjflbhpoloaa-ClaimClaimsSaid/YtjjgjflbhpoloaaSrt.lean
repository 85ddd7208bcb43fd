/- The library's sort and compact at claims -/
import Derived.Test.YtjjgjflbhpoloaaData
import Derived.Shelf.SlSortCmp.InsertionK
import Derived.Test.YtjjgjflbhpoloaaTab
import Derived.WalkKit
import Derived.Shelf.Abstract
import Derived.Shelf.SlSortCmp.NoneTotal
import Derived.Test.YtjjgjflbhpoloaaFlw
set_option linter.unusedVariables false
set_option linter.unusedSimpArgs false
/- A library's sort by its contract over raw worlds, as a callee that is lent a row. Condition: a row that a machine holds. -/
namespace Go.Abs
open Go Go.RowKit Go.Sort Go.Shelf Go.Proofs
section
variable {α : Type} [Inhabited α] {enc : α → List Value} {k : Nat}
theorem flat_at (hk : ∀ x, (enc x).length = k) {d : Array α} {i j : Nat} (hi : i < d.size) (hj : j < k) : (flatK enc k d)[i * k + j]? = (enc d[i]!)[j]? := by
 have hlt : i * k + j < d.size * k := by
  have : (i + 1) * k ≤ d.size * k := Nat.mul_le_mul_right _ hi
  rw [Nat.add_mul, Nat.one_mul] at this; omega
 have e1 : (i * k + j) / k = i := by rw [Nat.mul_comm, Nat.mul_add_div (by omega), Nat.div_eq_of_lt hj, Nat.add_zero]
 have e2 : (i * k + j) % k = j := by rw [Nat.mul_comm, Nat.mul_add_mod, Nat.mod_eq_of_lt hj]
 have e3 : j < (enc d[i]!).length := by rw [hk]; exact hj
 have h := get_flatK enc k d _ hlt
 rw [e1, e2] at h
 have hs : i * k + j < (flatK enc k d).size := by rw [size_flatK]; exact hlt
 rw [Array.getElem?_eq_getElem hs, List.getElem?_eq_getElem e3]
 rw [getElem!_pos (flatK enc k d) _ hs, getElem!_pos (enc d[i]!) _ e3] at h
 rw [h]
theorem put_get (F c : Array Value) (t : Nat) (hF : F.size ≤ c.size) : (putCells id 0 F c)[t]? = if t < F.size then F[t]? else c[t]? := by
 unfold putCells
 rw [Array.getElem?_mapIdx]
 by_cases h : t < F.size
 ·rw [if_pos h, Array.getElem?_eq_getElem (by omega), Array.getElem?_eq_getElem h]
  simp [h]
 ·rw [if_neg h]
  cases c[t]? with
  | none => rfl
  | some x => simp [h]
theorem sortM {P : Program} {f g e : Nat} {srt : Array α → Array α} (hk : ∀ x, (enc x).length = k) (hfn : fnB P f = true)
  (hS : ∀ blk cap (d : Array α) w, HoldsK enc k w blk 0 d → blk < w.heap.size → d.size < 4611686018427387904 → Calls P f #[.slice (some ⟨blk, 0, none⟩) d.size cap, .func (.func g) #[] #[]] w fun e w' => e = .returned (.tuple #[]) ∧ ∃ n os, w' = sortWorldK enc k w blk 0 n (srt d) os)
  (hsz : ∀ d, (srt d).size = d.size) (h0 : ∀ n p cap w, n = 0 → Calls P f #[.slice p n cap, .func (.func g) #[] #[]] w fun e w' => e = .returned (.tuple #[]) ∧ w' = w)
  (d : Array α) (hd : d.size < 4611686018427387904) :
  ACallM P f ⟨[.sl ⟨1001, []⟩ d.size, .val (.func (.func g) #[] #[])], [(1001, .row e k d.size fun i => (enc d[i]!).map .val)], .tup [], [(1001, .row e k d.size fun i => (enc (srt d)[i]!).map .val)]⟩ := by
 unfold ACallM
 refine ⟨hfn, ?_, ?_⟩
 ·exact ⟨⟨trivial, trivial⟩, ⟨rfl, trivial, trivial⟩, ⟨trivial, trivial⟩⟩
 intro F τ w vs hr hlen hargs
 obtain ⟨v0, v1, rfl⟩ : ∃ v0 v1, vs = [v0, v1] := by
  match vs, hlen with
  | [a, b], _ => exact ⟨a, b, rfl⟩
 have a0 := hargs 0 _ rfl
 have a1 := hargs 1 _ rfl
 simp only [List.getD_cons_zero, List.getD_cons_succ] at a0 a1
 obtain ⟨u0, q1, q2⟩ := hr.obj ⟨1001, []⟩ _ (Has.of_look rfl rfl)
 obtain ⟨xs, hown, r3, r4⟩ := q2
 have hdom : ∀ {o : HO} {nm : Nm}, o.flat = true → ((∃ y, Has [(1001, o)] nm y) ↔ nm = ⟨1001, []⟩) := fun {o nm} ho => by
  rw [has_cons_ex ho]
  constructor
  ·rintro (h | ⟨_, y, hy⟩)
   ·exact h
   ·obtain ⟨z, hz, _⟩ := hy; cases hz
  ·exact fun h => .inl h
 have hat : ∀ {o y : HO} {nm : Nm}, o.flat = true → Has [(1001, o)] nm y → nm = ⟨1001, []⟩ ∧ y = o := fun {o y nm} ho h => by
  rcases (has_cons ho).1 h with h | ⟨_, h⟩
  ·exact h
  ·obtain ⟨z, hz, _⟩ := h; cases hz
 cases a1
 cases a0 with
 | sl _ _ _ A m c hτ hnm hmc hA =>
  rw [hτ] at q1; injection q1 with q1; subst q1
  have hm := own_form hown
  subst hm
  by_cases hn : d.size = 0
  ·refine (h0 _ A c w hn).mono ?_
   rintro e' w' ⟨rfl, rfl⟩
   refine ⟨_, F, τ, rfl, ⟨hr.keeps, hr.fz, hr.fne, hr.fsub, hr.fsup, hr.tlt, hr.inj, fun nm o ho => ?_, fun nm v hv => ?_, hr.old, hr.cxn⟩, .tup _ [] #[] rfl (fun j c h => by cases h)⟩
   ·obtain ⟨rfl, rfl⟩ := hat rfl ho
    exact ⟨_, hτ, xs, hown, fun i hi => by omega, fun i j x hi => by omega⟩
   ·obtain ⟨o, ho⟩ := hr.dom nm v hv
    obtain ⟨rfl, _⟩ := hat rfl ho
    exact ⟨_, Has.of_look rfl rfl⟩
  ·rcases hown.2 with ⟨h', h0'⟩ | ⟨g', cap, cur, hv, _, hg, hnc, hcm, hcs, htk⟩
   ·exact absurd h0' hn
   simp only [Value.slice.injEq] at hv
   obtain ⟨rfl, _, rfl⟩ := hv
   have hglt : g' < w.heap.size := (Array.getElem?_eq_some_iff.1 hg).1
   have hncK : d.size * k ≤ c * k := Nat.mul_le_mul_right _ hnc
   have hcell : ∀ t, t < d.size * k → cur[t]? = (flatK enc k d)[t]? := fun t ht => by
    have k0 : 0 < k := Nat.pos_of_ne_zero fun h => by rw [h] at ht; omega
    have hi : t / k < d.size := by rw [Nat.div_lt_iff_lt_mul k0]; exact ht
    have hq : t % k < k := Nat.mod_lt _ k0
    have et : t / k * k + t % k = t := Nat.div_add_mod' t k
    have e1 := flat_at hk (d := d) hi hq
    rw [et] at e1
    have e3 : t % k < (enc d[t / k]!).length := by rw [hk]; exact hq
    rw [List.getElem?_eq_getElem e3] at e1
    have h4 := r4 (t / k) (t % k) (.val (enc d[t / k]!)[t % k]) hi (by rw [List.getElem?_map, List.getElem?_eq_getElem e3]; rfl)
    rw [et] at h4
    have hlx : t < xs.length := by rw [hown.1]; exact ht
    rw [List.getD_eq_getElem?_getD, List.getElem?_eq_getElem hlx, Option.getD_some] at h4
    have e5 : xs[t] = (enc d[t / k]!)[t % k] := by
     generalize xs[t] = y at h4
     generalize (enc d[t / k]!)[t % k] = z at h4
     cases h4; rfl
    have e6 : cur.toList[t]? = xs[t]? := by rw [← htk, List.getElem?_take, if_pos ht]
    rw [← Array.getElem?_toList, e6, List.getElem?_eq_getElem hlx, e5, e1]
   have hH : HoldsK enc k w g' 0 d := fun j hj => by
    have hj' : j < d.size * k := by rw [size_flatK] at hj; exact hj
    constructor
    ·show w.cell? ⟨g', 0 + j, none⟩ = some (id (flatK enc k d)[j]!)
     unfold World.cell?
     simp only [hg, Nat.zero_add, Option.isSome_none, Bool.false_eq_true, if_false, id]
     rw [hcell j hj', Array.getElem?_eq_getElem hj, getElem!_pos (flatK enc k d) _ hj]
    ·unfold World.frozen?
     simp [hg]
   refine (hS g' c d w hH hglt hd).mono ?_
   rintro e' w' ⟨rfl, n', os, rfl⟩
   have hFs : (flatK enc k (srt d)).size = d.size * k := by rw [size_flatK, hsz]
   have hheap : (sortWorldK enc k w g' 0 n' (srt d) os).heap = w.heap.modify g' (onCells (putCells id 0 (flatK enc k (srt d)))) ++ os := rfl
   have hms : (w.heap.modify g' (onCells (putCells id 0 (flatK enc k (srt d))))).size = w.heap.size := by simp
   have hsize : w.heap.size ≤ (sortWorldK enc k w g' 0 n' (srt d) os).heap.size := by rw [hheap, Array.size_append, hms]; omega
   have hoth : ∀ b, b < w.heap.size → b ≠ g' → (sortWorldK enc k w g' 0 n' (srt d) os).heap[b]? = w.heap[b]? := fun b hb hne => by
    rw [hheap, Array.getElem?_append_left (by rw [hms]; exact hb), Array.getElem?_modify, if_neg (fun e => hne e.symm)]
   have hat' : (sortWorldK enc k w g' 0 n' (srt d) os).heap[g']? = some (.cells (putCells id 0 (flatK enc k (srt d)) cur) e (0, 0)) := by
    rw [hheap, Array.getElem?_append_left (by rw [hms]; exact hglt), Array.getElem?_modify, if_pos rfl, hg]; rfl
   refine ⟨_, F, τ, rfl, ⟨⟨rfl, rfl, rfl, hsize, fun b hb hx => hoth b hb (fun e => hx (by subst e; exact ⟨_, _, hτ, rfl⟩))⟩, fun b hb => Nat.lt_of_lt_of_le (hr.fz b hb) hsize, hr.fne, hr.fsub, hr.fsup, fun nm v b h1 h2 => ⟨(hr.tlt nm v b h1 h2).1, Nat.lt_of_lt_of_le (hr.tlt nm v b h1 h2).2 hsize⟩, hr.inj, fun nm o ho => ?_, fun nm v hv => ?_, hr.old, hr.cxn⟩, .tup _ [] #[] rfl (fun j c h => by cases h)⟩
   ·obtain ⟨rfl, rfl⟩ := hat rfl ho
    have hcs' : (putCells id 0 (flatK enc k (srt d)) cur).size = cur.size := by simp [putCells]
    refine ⟨_, hτ, (flatK enc k (srt d)).toList, ⟨by rw [Array.length_toList, hFs], .inr ⟨g', c, _, rfl, Nat.zero_le _, hat', hnc, hcm, by rw [hcs', hcs], ?_⟩⟩, fun i hi => by rw [List.length_map, hk], fun i j x hi hx => ?_⟩
    ·refine List.ext_getElem? fun t => ?_
     rw [List.getElem?_take, Array.getElem?_toList, Array.getElem?_toList, put_get _ _ _ (by rw [hFs, hcs]; exact hncK), hFs]
     by_cases ht : t < d.size * k
     ·rw [if_pos ht, if_pos ht]
     ·rw [if_neg ht, Array.getElem?_eq_none (by rw [hFs]; omega)]
    ·rw [List.getElem?_map] at hx
     cases hu : (enc (srt d)[i]!)[j]? with
     | none => rw [hu] at hx; cases hx
     | some u =>
      rw [hu] at hx; injection hx with hx; subst hx
      have hj : j < k := by have := (List.getElem?_eq_some_iff.1 hu).1; rw [hk] at this; exact this
      rw [List.getD_eq_getElem?_getD, Array.getElem?_toList, flat_at hk (by rw [hsz]; exact hi) hj, hu]
      exact .val _ _
   ·obtain ⟨o, ho⟩ := hr.dom nm v hv
    obtain ⟨rfl, _⟩ := hat rfl ho
    exact ⟨_, Has.of_look rfl rfl⟩
end
end Go.Abs
/- claim.order compares claims as lists of numbers: over raw worlds, for the library's sort. No condition. -/
namespace Go.Proofs.Ytjjgjflbhpoloaa
open Go Go.RowKit Go.Sort Go.Shelf Go.Proofs
def orF : List Int → Int
 | [] => 0
 | x :: r => if x = 0 then orF r else x
set_option maxHeartbeats 2000000 in
theorem or5 (b : Nat) (x0 x1 x2 x3 x4 : Int) (W : World) (h0 : W.cell? ⟨b, 0, none⟩ = some (.int .i64 x0)) (h1 : W.cell? ⟨b, 1, none⟩ = some (.int .i64 x1)) (h2 : W.cell? ⟨b, 2, none⟩ = some (.int .i64 x2)) (h3 : W.cell? ⟨b, 3, none⟩ = some (.int .i64 x3)) (h4 : W.cell? ⟨b, 4, none⟩ = some (.int .i64 x4)) :
  Calls Try.prog 114 #[.slice (some ⟨b, 0, none⟩) 5 5] W fun e w' => e = .returned (.int .i64 (orF [x0, x1, x2, x3, x4])) ∧ w' = W := by
 go_enter Try.func114, Try.ntmps114
 go_wp2
 refine wp_loop_rounds 6 ?_
 rw [rounds_succ]
 by_cases e0 : x0 = 0
 case neg =>
  go_wp2
  all_goals (go_ret; exact ⟨by simp [orF, e0], rfl⟩)
 go_wp2
 rw [rounds_succ]
 by_cases e1 : x1 = 0
 case neg =>
  go_wp2
  all_goals (go_ret; exact ⟨by simp [orF, e0, e1], rfl⟩)
 go_wp2
 rw [rounds_succ]
 by_cases e2 : x2 = 0
 case neg =>
  go_wp2
  all_goals (go_ret; exact ⟨by simp [orF, e0, e1, e2], rfl⟩)
 go_wp2
 rw [rounds_succ]
 by_cases e3 : x3 = 0
 case neg =>
  go_wp2
  all_goals (go_ret; exact ⟨by simp [orF, e0, e1, e2, e3], rfl⟩)
 go_wp2
 rw [rounds_succ]
 by_cases e4 : x4 = 0
 case neg =>
  go_wp2
  all_goals (go_ret; exact ⟨by simp [orF, e0, e1, e2, e3, e4], rfl⟩)
 go_wp2
 rw [rounds_succ]
 go_wp2
 go_ret
 exact ⟨by simp [orF, e0, e1, e2, e3, e4], rfl⟩
theorem cell_last {W : World} {A B : Obj} {c : Array Value} {t n : Nat} {v : Value} (h : c[n]? = some v) : (((W.alloc A).alloc B).alloc (.cells c t)).cell? ⟨W.heap.size + 1 + 1, n, none⟩ = some v := by
 unfold World.cell?
 have e : (((W.alloc A).alloc B).alloc (.cells c t)).heap[W.heap.size + 1 + 1]? = some (.cells c t (0, 0)) := by
  show (((W.heap.push A).push B).push (.cells c t))[W.heap.size + 1 + 1]? = _
  rw [show W.heap.size + 1 + 1 = ((W.heap.push A).push B).size by rw [Array.size_push, Array.size_push], Array.getElem?_push_size]
 rw [e]
 exact h
abbrev C5 := Int × Int × Int × Int × Int
@[reducible] def c5V (p : C5) : List Value := [.int .i64 p.1, .int .i64 p.2.1, .int .i64 p.2.2.1, .int .i64 p.2.2.2.1, .int .i64 p.2.2.2.2]
def wsub (a b : Int) : Int := wrap64 (a - b)
def ordC (x y : C5) : Int := orF [wsub x.1 y.1, wsub x.2.1 y.2.1, wsub x.2.2.1 y.2.2.1, wsub x.2.2.2.1 y.2.2.2.1, wsub x.2.2.2.2 y.2.2.2.2]
set_option maxHeartbeats 4000000 in
theorem order_raw (x0 x1 x2 x3 x4 y0 y1 y2 y3 y4 : Int) (W : World) : Calls Try.prog 66 #[.agg #[.int .i64 x0, .int .i64 x1, .int .i64 x2, .int .i64 x3, .int .i64 x4], .agg #[.int .i64 y0, .int .i64 y1, .int .i64 y2, .int .i64 y3, .int .i64 y4]] W fun e w' => e = .returned (.int .i64 (orF [wsub x0 y0, wsub x1 y1, wsub x2 y2, wsub x3 y3, wsub x4 y4])) ∧ ∃ q os', w' = grow (W.drewN q) os' := by
 go_enter Try.func66, Try.ntmps66
 go_wp2_with (go_at_call 114; refine (or5 _ _ _ _ _ _ _ (cell_last rfl) (cell_last rfl) (cell_last rfl) (cell_last rfl) (cell_last rfl)).mono ?_; rintro e w' ⟨rfl, rfl⟩)
 go_ret
 exact ⟨rfl, 0, _, by rw [alloc_eq_grow, alloc_eq_grow, alloc_eq_grow, grow_grow, grow_grow]; rfl⟩
end Go.Proofs.Ytjjgjflbhpoloaa
/- slices.SortFunc at claims, by the library's contract. Condition: numbers that may be. -/
namespace Go.Proofs.Ytjjgjflbhpoloaa
open Go Go.Abs Go.RowKit Go.Sort Go.Shelf Go.Proofs
def claimSort_ren : Go.Shelf.Ren := ⟨fun | 6 => 65 | 15 => 113 | 14 => 112 | 28 => 155 | 29 => 156 | 20 => 147 | 21 => 148 | 22 => 149 | 23 => 150 | 24 => 151 | 25 => 152 | 26 => 153 | 27 => 154 | 46 => 175 | 47 => 176 | 48 => 177 | 49 => 178 | 50 => 179 | 57 => 185 | n => n, fun | 22 => 69 | 24 => 147 | 25 => 148 | 3 => 3 | 39 => 187 | 0 => 0 | 53 => 223 | 55 => 172 | 4 => 4 | 46 => 217 | 45 => 216 | 50 => 78 | 5 => 5 | 9 => 9 | 66 => 237 | 70 => 241 | 76 => 251 | 77 => 252 | n => n, fun | n => n⟩
theorem claimSort : SlLaysF0.n6 Try.prog claimSort_ren where
 mixed := by kernel_rfl
 f6 := ⟨Try.f65.name, by decide, Try.func65.trans (congrArg some (by kernel_rfl))⟩
 f14 := ⟨Try.f112.name, by decide, Try.func112.trans (congrArg some (by kernel_rfl))⟩
 f15 := Try.func113.trans (congrArg some (by kernel_rfl))
 f20 := ⟨Try.f147.name, by decide, Try.func147.trans (congrArg some (by kernel_rfl))⟩
 f21 := ⟨Try.f148.name, by decide, Try.func148.trans (congrArg some (by kernel_rfl))⟩
 f22 := ⟨Try.f149.name, by decide, Try.func149.trans (congrArg some (by kernel_rfl))⟩
 f23 := ⟨Try.f150.name, by decide, Try.func150.trans (congrArg some (by kernel_rfl))⟩
 f24 := ⟨Try.f151.name, by decide, Try.func151.trans (congrArg some (by kernel_rfl))⟩
 f25 := ⟨Try.f152.name, by decide, Try.func152.trans (congrArg some (by kernel_rfl))⟩
 f26 := ⟨Try.f153.name, by decide, Try.func153.trans (congrArg some (by kernel_rfl))⟩
 f27 := ⟨Try.f154.name, by decide, Try.func154.trans (congrArg some (by kernel_rfl))⟩
 f28 := Try.func155.trans (congrArg some (by kernel_rfl))
 f29 := Try.func156.trans (congrArg some (by kernel_rfl))
 f46 := ⟨Try.f175.name, by decide, Try.func175.trans (congrArg some (by kernel_rfl))⟩
 f47 := Try.func176.trans (congrArg some (by kernel_rfl))
 f48 := Try.func177.trans (congrArg some (by kernel_rfl))
 f49 := ⟨Try.f178.name, by decide, Try.func178.trans (congrArg some (by kernel_rfl))⟩
 f50 := ⟨Try.f179.name, by decide, Try.func179.trans (congrArg some (by kernel_rfl))⟩
 f57 := ⟨Try.f185.name, by decide, Try.func185.trans (congrArg some (by kernel_rfl))⟩
 t0 := Try.underlying0
 a0 := Try.isAgg0
 z0 := Try.sizeOf0
 v0 := Try.zeroValue0
 t3 := Try.underlying3
 a3 := Try.isAgg3
 z3 := Try.sizeOf3
 v3 := Try.zeroValue3
 t4 := Try.underlying4
 a4 := Try.isAgg4
 z4 := Try.sizeOf4
 v4 := Try.zeroValue4
 t5 := Try.underlying5
 a5 := Try.isAgg5
 z5 := Try.sizeOf5
 v5 := Try.zeroValue5
 t9 := Try.underlying9
 a9 := Try.isAgg9
 z9 := Try.sizeOf9
 v9 := Try.zeroValue9
 t22 := Try.underlying69
 a22 := Try.isAgg69
 z22 := Try.sizeOf69
 v22 := Try.zeroValue69
 t25 := Try.underlying148
 a25 := Try.isAgg148
 z25 := Try.sizeOf148
 v25 := Try.zeroValue148
 t39 := Try.underlying187
 a39 := Try.isAgg187
 z39 := Try.sizeOf187
 v39 := Try.zeroValue187
 t45 := Try.underlying216
 a45 := Try.isAgg216
 z45 := Try.sizeOf216
 v45 := Try.zeroValue216
 t46 := Try.underlying217
 a46 := Try.isAgg217
 z46 := Try.sizeOf217
 v46 := Try.zeroValue217
 t50 := Try.underlying78
 a50 := Try.isAgg78
 z50 := Try.sizeOf78
 v50 := Try.zeroValue78
 t53 := Try.underlying223
 a53 := Try.isAgg223
 z53 := Try.sizeOf223
 v53 := Try.zeroValue223
 t55 := Try.underlying172
 a55 := Try.isAgg172
 z55 := Try.sizeOf172
 v55 := Try.zeroValue172
 t66 := Try.underlying237
 a66 := Try.isAgg237
 z66 := Try.sizeOf237
 v66 := Try.zeroValue237
 t70 := Try.underlying241
 a70 := Try.isAgg241
 z70 := Try.sizeOf241
 v70 := Try.zeroValue241
 t76 := Try.underlying251
 a76 := Try.isAgg251
 z76 := Try.sizeOf251
 v76 := Try.zeroValue251
 t77 := Try.underlying252
 a77 := Try.isAgg252
 z77 := Try.sizeOf252
 v77 := Try.zeroValue252
def lexD : List Int → List Int → Int
 | a :: r, b :: s => if a - b = 0 then lexD r s else a - b
 | _, _ => 0
theorem lexD_self : ∀ x, lexD x x = 0
 | [] => rfl
 | a :: r => by simp [lexD, lexD_self r]
theorem lexD_trans : ∀ x y z : List Int, x.length = y.length → y.length = z.length → (lexD x y < 0 → lexD y z < 0 → lexD x z < 0) ∧ (¬ lexD x y < 0 → ¬ lexD y z < 0 → ¬ lexD x z < 0)
 | [], [], [], _, _ => by simp [lexD]
 | a :: r, b :: s, c :: t, h1, h2 => by
  have ih := lexD_trans r s t (by simpa using h1) (by simpa using h2)
  obtain ⟨i1, i2⟩ := ih
  simp only [lexD]
  by_cases e1 : a - b = 0 <;> by_cases e2 : b - c = 0 <;> by_cases e3 : a - c = 0 <;> simp only [e1, e2, e3, if_true, if_false] <;> first|exact ⟨i1, i2⟩|(refine ⟨?_, ?_⟩ <;> omega)
theorem lexD_eq : ∀ x y : List Int, x.length = y.length → (lexD x y = 0 ↔ x = y)
 | [], [], _ => by simp [lexD]
 | a :: r, b :: s, h => by
  have ih := lexD_eq r s (by simpa using h)
  simp only [lexD, List.cons.injEq]
  by_cases e : a - b = 0
  ·rw [if_pos e, ih]
   exact ⟨fun h => ⟨by omega, h⟩, fun h => h.2⟩
  ·rw [if_neg e]
   exact ⟨fun h => absurd h e, fun h => absurd h.1 (by omega)⟩
theorem lexD_anti : ∀ x y : List Int, x.length = y.length → lexD y x = - lexD x y
 | [], [], _ => by simp [lexD]
 | a :: r, b :: s, h => by
  have ih := lexD_anti r s (by simpa using h)
  simp only [lexD]
  by_cases e : a - b = 0
  ·rw [if_pos e, if_pos (by omega), ih]
  ·rw [if_neg e, if_neg (by omega)]; omega
@[reducible] def c5L (p : C5) : List Int := [p.1, p.2.1, p.2.2.1, p.2.2.2.1, p.2.2.2.2]
theorem c5L_inj {p q : C5} (h : c5L p = c5L q) : p = q := by
 obtain ⟨a, b, c, d, e⟩ := p
 obtain ⟨a', b', c', d', e'⟩ := q
 simp only [c5L, List.cons.injEq, and_true] at h
 obtain ⟨rfl, rfl, rfl, rfl, rfl⟩ := h
 rfl
def ltC (x y : C5) : Bool := decide (lexD (c5L x) (c5L y) < 0)
theorem ltC_trans {x y z : C5} (h1 : ltC x y = true) (h2 : ltC y z = true) : ltC x z = true := by
 unfold ltC at *
 simp only [decide_eq_true_eq] at *
 exact (lexD_trans (c5L x) (c5L y) (c5L z) rfl rfl).1 h1 h2
theorem ltC_irr (x : C5) : ltC x x = false := by unfold ltC; rw [lexD_self]; rfl
theorem ltC_ntrans {x y z : C5} (h1 : ltC x y = false) (h2 : ltC y z = false) : ltC x z = false := by
 unfold ltC at *
 simp only [decide_eq_false_iff_not] at *
 exact (lexD_trans (c5L x) (c5L y) (c5L z) rfl rfl).2 h1 h2
theorem ltC_tot {x y : C5} (h1 : ltC x y = false) (h2 : ltC y x = false) : x = y := by
 unfold ltC at *
 simp only [decide_eq_false_iff_not] at *
 have := lexD_anti (c5L x) (c5L y) rfl
 exact c5L_inj ((lexD_eq (c5L x) (c5L y) rfl).1 (by omega))
theorem ltC_asym {x y : C5} (h1 : ltC x y = true) : ltC y x = false := by
 cases h : ltC y x with
 | false => rfl
 | true => have := ltC_trans h1 h; rw [ltC_irr] at this; cases this
def sml (x : Int) : Prop := -1099511627776 ≤ x ∧ x ≤ 1099511627776
def okC (p : C5) : Prop := sml p.1 ∧ sml p.2.1 ∧ sml p.2.2.1 ∧ sml p.2.2.2.1 ∧ sml p.2.2.2.2
theorem wsub_eq {a b : Int} (ha : sml a) (hb : sml b) : wsub a b = a - b := by
 unfold sml at *
 unfold wsub wrap64
 omega
theorem ordC_eq {x y : C5} (hx : okC x) (hy : okC y) : ordC x y = lexD (c5L x) (c5L y) := by
 obtain ⟨a1, a2, a3, a4, a5⟩ := hx
 obtain ⟨b1, b2, b3, b4, b5⟩ := hy
 unfold ordC
 rw [wsub_eq a1 b1, wsub_eq a2 b2, wsub_eq a3 b3, wsub_eq a4 b4, wsub_eq a5 b5]
 simp only [orF, lexD, c5L]
abbrev CB := {p : C5 // okC p}
instance : Inhabited CB := ⟨⟨(0, 0, 0, 0, 0), by unfold okC sml; simp⟩⟩
theorem ltB (x y : CB) : ltOf (fun x y : CB => ordC x.1 y.1) x y = ltC x.1 y.1 := by
 show decide (ordC x.1 y.1 < 0) = _
 rw [ordC_eq x.2 y.2]; rfl
theorem swoB : SWO (ltOf fun x y : CB => ordC x.1 y.1) where
 irrefl x := by rw [ltB]; exact ltC_irr _
 trans x y z h1 h2 := by rw [ltB] at *; exact ltC_trans h1 h2
 ntrans x y z h1 h2 := by rw [ltB] at *; exact ltC_ntrans h1 h2
theorem cmpB (blk off size : Nat) (w : World) : CmpLays Try.prog 66 #[] (fun x : CB => c5V x.1) 5 (fun x y => ordC x.1 y.1) blk off size w :=
 fun _ _ _ _ x y => order_raw _ _ _ _ _ _ _ _ _ _ _
def srtB (d : Array CB) : Array CB := (d.toList.mergeSort fun x y => !(ltOf fun x y : CB => ordC x.1 y.1) y x).toArray
theorem sortB (d : Array CB) (hd : d.size < 4611686018427387904) : ACallM B.P 65 ⟨[.sl ⟨1001, []⟩ d.size, .val (.func (.func 66) #[] #[])], [(1001, .row 147 5 d.size fun i => (c5V d[i]!.1).map .val)], .tup [], [(1001, .row 147 5 d.size fun i => (c5V (srtB d)[i]!.1).map .val)]⟩ := by
 refine sortM (P := B.P) (f := 65) (g := 66) (e := 147) (enc := fun x : CB => c5V x.1) (k := 5) (srt := srtB) (fun _ => rfl) (by kernel_rfl) (fun blk cap d w hH hb hs => ?_) (fun d => ?_) (fun n p cap w hn => ?_) d hd
 ·exact AnyQ.slices_SortFunc_total claimSort 5 Try.isAgg147 Try.sizeOf147 (fun x : CB => c5V x.1) (fun _ => rfl) (fun x v hv => by simp [c5V] at hv; rcases hv with rfl | rfl | rfl | rfl | rfl <;> rfl) (fun x y => ordC x.1 y.1) swoB 66 #[] blk 0 cap d w (enters_of Try.func66 (by kernel_rfl) rfl) (cmpB blk 0 d.size w) hH hb hs (fun x y h1 h2 => by rw [ltB] at *; exact Subtype.ext (ltC_tot h1 h2))
 ·unfold srtB; simp [List.length_mergeSort]
 ·subst hn; exact AnyF.slices_SortFunc_none claimSort p cap _ w
@[reducible] def clA (p : C5) : List AV := [.i64 p.1, .i64 p.2.1, .i64 p.2.2.1, .i64 p.2.2.2.1, .i64 p.2.2.2.2]
theorem c_Sort (L : List C5) (hL : ∀ p, p ∈ L → okC p) (hl : L.length < 4611686018427387904) : ∃ S : List C5, S.Perm L ∧ S.Pairwise (fun x y => ltC y x = false) ∧ ACallM B.P 65 ⟨[.sl ⟨1001, []⟩ L.length, .val (.func (.func 66) #[] #[])], [(1001, .row 147 5 L.length fun i => clA (L.getD i default))], .tup [], [(1001, .row 147 5 L.length fun i => clA (S.getD i default))]⟩ := by
 obtain ⟨l, rfl⟩ : ∃ l : List CB, L = l.map (·.1) := ⟨L.attach.map (fun p => ⟨p.1, hL p.1 p.2⟩), by rw [List.map_map]; exact (List.attach_map_subtype_val L).symm⟩
 have hd : l.toArray.size < 4611686018427387904 := by simpa using hl
 have h := sortB l.toArray hd
 refine ⟨(srtB l.toArray).toList.map (·.1), ?_, ?_, ?_⟩
 ·unfold srtB
  exact (List.mergeSort_perm _ _).map _
 ·rw [List.pairwise_map]
  have hp := List.pairwise_mergeSort (le := fun x y : CB => !(ltOf fun x y : CB => ordC x.1 y.1) y x) (fun a b c h1 h2 => by
   simp only [ltB, Bool.not_eq_true'] at *
   exact ltC_ntrans h2 h1) (fun a b => by
   simp only [ltB]
   cases h : ltC b.1 a.1 with
   | false => rfl
   | true => rw [ltC_asym h]; rfl) l
  unfold srtB
  refine hp.imp fun h => ?_
  simpa [ltB] using h
 ·have e1 : ∀ (d : Array CB) (i : Nat), (c5V d[i]!.1).map AV.val = clA ((d.toList.map (·.1)).getD i default) := fun d i => by
   have : d[i]!.1 = (d.toList.map (·.1)).getD i default := by
    rw [List.getD_eq_getElem?_getD, List.getElem?_map, Array.getElem?_toList]
    by_cases hi : i < d.size
    ·rw [getElem!_pos d i hi, Array.getElem?_eq_getElem hi]; rfl
    ·rw [getElem!_neg d i hi, Array.getElem?_eq_none (by omega)]; rfl
   rw [this]; rfl
  simp only [e1] at h
  simpa using h
end Go.Proofs.Ytjjgjflbhpoloaa
/- slices.Compact at claims. Condition: a row that a machine holds. -/
namespace Go.Proofs.Ytjjgjflbhpoloaa
open Go Go.Abs Go.RowKit Go.Abs.Gra
def stepD (acc : List C5) (x : C5) : List C5 := if acc.getLast? = some x then acc else acc ++ [x]
def ddK (L : List C5) : Nat → List C5
 | 0 => []
 | i + 1 => stepD (ddK L i) (L.getD i default)
theorem stepD_last {acc : List C5} {x : C5} : (stepD acc x).getLast? = some x := by
 unfold stepD
 split
 ·assumption
 ·simp
theorem ddK_last {L : List C5} {i : Nat} (h : 0 < i) : (ddK L i).getLast? = some (L.getD (i - 1) default) := by
 obtain ⟨j, rfl⟩ : ∃ j, i = j + 1 := ⟨i - 1, by omega⟩
 exact stepD_last
theorem ddK_same {L : List C5} {i : Nat} (h : 0 < i) (e : L.getD i default = L.getD (i - 1) default) : ddK L (i + 1) = ddK L i := by
 show stepD _ _ = _
 unfold stepD
 rw [if_pos (by rw [ddK_last h, e])]
theorem ddK_new {L : List C5} {i : Nat} (e : 0 < i → L.getD i default ≠ L.getD (i - 1) default) : ddK L (i + 1) = ddK L i ++ [L.getD i default] := by
 show stepD _ _ = _
 unfold stepD
 rw [if_neg]
 rcases Nat.eq_zero_or_pos i with h | h
 ·subst h; simp [ddK]
 ·rw [ddK_last h]
  intro hh; injection hh with hh; exact e h hh.symm
@[reducible] def rowC (L : List C5) : HO := .row 147 5 L.length (fun i => clA (L.getD i default))
@[reducible] def rowK (n : Nat) (r : Nat → C5) : HO := .row 147 5 n (fun i => clA (r i))
theorem c5_eqb {p q : C5} : (p.1 == q.1 && (p.2.1 == q.2.1 && (p.2.2.1 == q.2.2.1 && (p.2.2.2.1 == q.2.2.2.1 && (p.2.2.2.2 == q.2.2.2.2 && true))))) = decide (p = q) := by
 obtain ⟨a, b, c, d, e⟩ := p
 obtain ⟨a', b', c', d', e'⟩ := q
 rw [Bool.eq_iff_iff]
 simp
set_option maxRecDepth 4000 in
set_option maxHeartbeats 4000000 in
theorem m_Compact (L : List C5) (hl : L.length < 4611686018427387904) : ACallM B.P 67 ⟨[.sl ⟨1001, []⟩ L.length], [(1001, rowC L)], .sl ⟨2, []⟩ (ddK L L.length).length, [(2, rowC (ddK L L.length))]⟩ := by
 have hm : L.length ≤ maxLen := by unfold maxLen; omega
 refine ACallM.enter B _ _ Try.func67 rfl rfl Try.ntmps67 Try.results67 rfl ?_ fun hreal => ?_
 ·refine And.intro ?_ (And.intro ?_ ?_)
  all_goals repeat' (first|exact rfl|exact trivial|refine And.intro ?_ ?_)
 clear hreal
 repeat (first|apply zq|apply zb|apply zk)
 apply zr
 intro _
 repeat (first|apply zq|apply zb|apply zk)
 apply zr
 intro _
 repeat (first|apply zq|apply zb|apply zk)
 refine AWp.cond (And.intro (fun h => ?_) (fun h => ?_))
 ·have hL1 : L.length < 2 := by
   have h : (decide ((L.length : Int) < 2)) = true := h
   simp at h; omega
  have hD : ddK L L.length = L := by
   match L, hL1 with
   | [], _ => rfl
   | [a], _ => rfl
  repeat (first|apply zq|apply zb|apply zk)
  apply zr
  intro _
  refine AWp.trunc 2 1001 (k := L.length) rfl rfl rfl ?_
  refine AWp.ret ⟨Or.inl rfl, ?_⟩
  intro _
  rw [hD]
  exact And.intro rfl (And.intro rfl (And.intro ⟨_, _, rfl, rfl, fun i hi => rfl⟩ (And.intro trivial trivial)))
 have h2 : 2 ≤ L.length := by
  have h : (decide ((L.length : Int) < 2)) = false := h
  simp at h; omega
 refine AWp.skip ?_
 repeat (first|apply zq|apply zb|apply zk)
 apply zr
 intro _
 repeat (first|apply zq|apply zb|apply zk)
 refine AWp.loop (fun k : Nat => ⟨[(0, .sl 1001 L.length), (3, .i64 k)], [(1001, rowC L)]⟩) (fun k => 1 ≤ k ∧ k ≤ L.length ∧ ddK L k = L.take k) (fun k => L.length - k) 1 ?_ ?_ ?_
 ·refine ⟨Nat.le_refl _, by omega, ?_⟩
  match L, h2 with
  | a :: r, _ => rfl
 ·refine And.intro ?_ (And.intro ⟨_, _, rfl, rfl, fun i hi => rfl⟩ (And.intro trivial trivial))
  repeat' (first|exact rfl|exact trivial|refine And.intro ?_ ?_)
 rintro k ⟨hk1, hk2, hk3⟩
 repeat (first|apply zq|apply zb|apply zk)
 apply zr
 intro _
 repeat (first|apply zq|apply zb|apply zk)
 refine AWp.cond (And.intro (fun h1 => ?_) (fun h1 => ?_))
 ·have hk : k < L.length := Int.ofNat_lt.1 (of_decide_eq_true h1)
  have hw1 : IntKind.i64.wrap ((k : Int) - 1) = (k : Int) - 1 := wrap_in (by omega) (by omega)
  have hi1 : (IntKind.i64.wrap ((k : Int) - 1)).toNat = k - 1 := by rw [hw1]; omega
  repeat (first|apply zq|apply zb|apply zk)
  refine AWp.draw mixed (by kernel_rfl) ?_
  repeat' (first|exact trivial|refine And.intro ?_ ?_|fail)
  all_goals first|exact fun _ => nn (hk)|(intro _; rw [hw1]; omega)|(intro _; rw [hi1]; omega)|exact fun _ => hk|skip
  intro _
  repeat (first|apply zq|apply zb|apply zk)
  refine AWp.cond (And.intro (fun h3 => ?_) (fun h3 => ?_))
  ·have h3 : L.getD k default = L.getD (k - 1) default := by
    have h := of_decide_eq_true ((c5_eqb (p := L.getD k default) (q := L.getD (IntKind.i64.wrap ((k : Int) - 1)).toNat default)).symm.trans h3)
    rwa [hi1] at h
   have hk4 : ddK L (k + 1) = ddK L k := ddK_same hk1 h3
   have hk5 : (ddK L (k + 1)).length = k := by rw [hk4, hk3, List.length_take]; omega
   repeat (first|apply zq|apply zb|apply zk)
   apply zr
   repeat' (first|exact trivial|refine And.intro ?_ ?_|fail)
   all_goals first|(intro _; omega)|skip
   intro _
   repeat (first|apply zq|apply zb|apply zk)
   apply zr
   intro _
   repeat (first|apply zq|apply zb|apply zk)
   refine AWp.loop (fun s : Nat × (Nat → C5) => ⟨[(0, .sl 1001 L.length), (3, .i64 (ddK L (k + s.1)).length), (4, .so 1001 5 k (L.length - k)), (5, .i64 s.1)], [(1001, rowK L.length s.2)]⟩) (fun s => 1 ≤ s.1 ∧ k + s.1 ≤ L.length ∧ (ddK L (k + s.1)).length ≤ k + s.1 - 1 ∧ (∀ j, j < (ddK L (k + s.1)).length → s.2 j = (ddK L (k + s.1)).getD j default) ∧ ∀ j, k + s.1 - 1 ≤ j → s.2 j = L.getD j default) (fun s => L.length - k - s.1) (1, fun j => L.getD j default) ?_ ?_ ?_
   ·refine ⟨Nat.le_refl _, hk, by rw [hk5]; omega, fun j hj => ?_, fun j hj => rfl⟩
    rw [hk5] at hj
    show L.getD j default = (ddK L (k + 1)).getD j default
    rw [hk4, hk3]
    simp only [List.getD_eq_getElem?_getD, List.getElem?_take, if_pos hj]
   ·refine And.intro ?_ (And.intro ⟨_, _, rfl, rfl, fun i hi => rfl⟩ (And.intro trivial trivial))
    repeat' (first|exact rfl|exact trivial|exact congrArg (fun z : Nat => some (AV.i64 z)) hk5.symm|exact congrArg (fun z => some (AV.so 1001 5 k z)) (show ((L.length : Int) - (k : Int)).toNat = L.length - k by omega)|refine And.intro ?_ ?_)
   rintro ⟨j, r⟩ ⟨hj1, hj2, hj3, hj4, hj5⟩
   dsimp only at hj1 hj2 hj3 hj4 hj5
   show AWp B 61 _ ⟨[(0, .sl 1001 L.length), (3, .i64 (ddK L (k + j)).length), (4, .so 1001 5 k (L.length - k)), (5, .i64 j)], [(1001, rowK L.length r)]⟩ _
   repeat (first|apply zq|apply zb|apply zk)
   apply zr
   intro _
   repeat (first|apply zq|apply zb|apply zk)
   refine AWp.cond (And.intro (fun h4 => ?_) (fun h4 => ?_))
   ·have hjl : k + j < L.length := by
     have h : ((j : Int)) < ((L.length - k : Nat) : Int) := of_decide_eq_true h4
     omega
    have hw2 : IntKind.i64.wrap ((j : Int) - 1) = (j : Int) - 1 := wrap_in (by omega) (by omega)
    have hi2 : (IntKind.i64.wrap ((j : Int) - 1)).toNat = j - 1 := by rw [hw2]; omega
    have r1 : r (k + j) = L.getD (k + j) default := hj5 _ (by omega)
    have r0 : r (k + (j - 1)) = L.getD (k + j - 1) default := by rw [hj5 _ (by omega)]; congr 1; omega
    repeat (first|apply zq|apply zb|apply zk)
    refine AWp.draw mixed (by kernel_rfl) ?_
    repeat' (first|exact trivial|refine And.intro ?_ ?_|fail)
    all_goals first|(intro _; rw [hi2]; omega)|(intro _; rw [hw2]; omega)|(intro _; show k + j < L.length; omega)|(intro _; show (0 : Int) ≤ (j : Int) ∧ (j : Int) < ((L.length - k : Nat) : Int); omega)|skip
    intro _
    have hb := c5_eqb (p := r (k + j)) (q := r (k + (IntKind.i64.wrap ((j : Int) - 1)).toNat))
    rw [hi2, r1, r0] at hb
    repeat (first|apply zq|apply zb|apply zk)
    refine AWp.cond (And.intro (fun h5 => ?_) (fun h5 => ?_))
    ·have h5 : L.getD (k + j) default ≠ L.getD (k + j - 1) default := fun e => by
      have h : (!((r (k + j)).1 == (r (k + (IntKind.i64.wrap ((j : Int) - 1)).toNat)).1 && ((r (k + j)).2.1 == (r (k + (IntKind.i64.wrap ((j : Int) - 1)).toNat)).2.1 && ((r (k + j)).2.2.1 == (r (k + (IntKind.i64.wrap ((j : Int) - 1)).toNat)).2.2.1 && ((r (k + j)).2.2.2.1 == (r (k + (IntKind.i64.wrap ((j : Int) - 1)).toNat)).2.2.2.1 && ((r (k + j)).2.2.2.2 == (r (k + (IntKind.i64.wrap ((j : Int) - 1)).toNat)).2.2.2.2 && true)))))) = true := h5
      rw [hi2, r1, r0, hb, decide_eq_true e] at h
      cases h
     have hn : ddK L (k + (j + 1)) = ddK L (k + j) ++ [L.getD (k + j) default] := ddK_new (i := k + j) (fun _ => h5)
     have hlen : (ddK L (k + (j + 1))).length = (ddK L (k + j)).length + 1 := by rw [hn, List.length_append]; rfl
     repeat (first|apply zq|apply zb|apply zk)
     apply zr
     repeat' (first|exact trivial|refine And.intro ?_ ?_|fail)
     all_goals first|(intro _; show (0 : Int) ≤ (j : Int) ∧ (j : Int) < ((L.length - k : Nat) : Int); omega)|(intro _; show k + j < L.length; omega)|(intro _; omega)|(show (ddK L (k + j)).length < L.length; omega)|skip
     intro _
     repeat (first|apply zq|apply zb|apply zk)
     apply zr
     intro _
     repeat (first|apply zq|apply zb|apply zk)
     apply zr
     intro _
     refine Exists.intro (j + 1, fun i => if i = (ddK L (k + j)).length then r (k + j) else r i) (And.intro ?_ (And.intro ?_ (show L.length - k - (j + 1) < L.length - k - j by omega)))
     ·dsimp only
      refine ⟨by omega, by omega, by omega, fun i hi => ?_, fun i (hi : k + (j + 1) - 1 ≤ i) => ?_⟩
      ·rw [hlen] at hi
       rw [hn]
       by_cases e : i = (ddK L (k + j)).length
       ·rw [if_pos e, r1, e]
        simp [List.getD_eq_getElem?_getD]
       ·rw [if_neg e, hj4 i (by omega)]
        simp only [List.getD_eq_getElem?_getD]
        rw [List.getElem?_append_left (by omega)]
      ·rw [if_neg (by omega)]
       exact hj5 i (by omega)
     ·refine And.intro ?_ (And.intro ⟨_, _, rfl, rfl, fun i hi => ?_⟩ (And.intro trivial trivial))
      ·repeat' (first|exact rfl|exact trivial|exact congrArg (fun z : Int => some (AV.i64 z)) (show IntKind.i64.wrap (((ddK L (k + j)).length : Int) + 1) = ((ddK L (k + (j + 1))).length : Int) by rw [hlen, wrap_in (by omega) (by omega)]; omega)|exact congrArg (fun z => some (AV.i64 z)) (wrap_succ (show j < L.length by omega) hm)|refine And.intro ?_ ?_)
      ·show clA (if i = (ddK L (k + j)).length then r (k + j) else r i) = if i = (ddK L (k + j)).length then _ else _
       by_cases e : i = (ddK L (k + j)).length
       ·rw [if_pos e, if_pos e]; rfl
       ·rw [if_neg e, if_neg e]
    ·have h5 : L.getD (k + j) default = L.getD (k + j - 1) default := by
      have h : (!((r (k + j)).1 == (r (k + (IntKind.i64.wrap ((j : Int) - 1)).toNat)).1 && ((r (k + j)).2.1 == (r (k + (IntKind.i64.wrap ((j : Int) - 1)).toNat)).2.1 && ((r (k + j)).2.2.1 == (r (k + (IntKind.i64.wrap ((j : Int) - 1)).toNat)).2.2.1 && ((r (k + j)).2.2.2.1 == (r (k + (IntKind.i64.wrap ((j : Int) - 1)).toNat)).2.2.2.1 && ((r (k + j)).2.2.2.2 == (r (k + (IntKind.i64.wrap ((j : Int) - 1)).toNat)).2.2.2.2 && true)))))) = false := h5
      rw [hi2, r1, r0, hb] at h
      simpa using h
     have hn : ddK L (k + (j + 1)) = ddK L (k + j) := ddK_same (i := k + j) (by omega) h5
     refine AWp.skip ?_
     repeat (first|apply zq|apply zb|apply zk)
     apply zr
     intro _
     refine Exists.intro (j + 1, r) (And.intro ?_ (And.intro ?_ (show L.length - k - (j + 1) < L.length - k - j by omega)))
     ·dsimp only
      rw [hn]
      exact ⟨by omega, by omega, by omega, hj4, fun i (hi : k + (j + 1) - 1 ≤ i) => hj5 i (by omega)⟩
     ·refine And.intro ?_ (And.intro ⟨_, _, rfl, rfl, fun i hi => rfl⟩ (And.intro trivial trivial))
      repeat' (first|exact rfl|exact trivial|exact congrArg (fun z : List C5 => some (AV.i64 (z.length : Nat))) hn.symm|exact congrArg (fun z => some (AV.i64 z)) (wrap_succ (show j < L.length by omega) hm)|refine And.intro ?_ ?_)
   have hjl : k + j = L.length := by
    have h : ¬ ((j : Int)) < ((L.length - k : Nat) : Int) := of_decide_eq_false h4
    omega
   have hD : ddK L (k + j) = ddK L L.length := by rw [hjl]
   have hj6 : (ddK L (k + j)).length ≤ L.length := by omega
   apply ze
   repeat (first|apply zq|apply zb|apply zk)
   apply zr
   repeat' (first|exact trivial|refine And.intro ?_ ?_|fail)
   all_goals first|(intro _; omega)|omega|skip
   intro _
   repeat (first|apply zq|apply zb|apply zk)
   apply zr
   repeat' (first|exact trivial|refine And.intro ?_ ?_|fail)
   all_goals first|(intro _; omega)|omega|skip
   intro _
   refine AWp.trunc 2 1001 (k := (ddK L (k + j)).length) rfl rfl rfl ?_
   refine AWp.ret ⟨Or.inl rfl, ?_⟩
   intro _
   rw [← hD]
   refine And.intro rfl (And.intro rfl (And.intro ⟨_, _, rfl, rfl, fun i hi => ?_⟩ (And.intro trivial trivial)))
   rw [if_neg (fun h => by have h1 := h.1; have h1 : (ddK L (k + j)).length ≤ i := h1; omega)]
   show clA ((ddK L (k + j)).getD i default) = clA (r i)
   rw [hj4 i hi]
  ·have h3 : L.getD k default ≠ L.getD (k - 1) default := by
    have h := of_decide_eq_false ((c5_eqb (p := L.getD k default) (q := L.getD (IntKind.i64.wrap ((k : Int) - 1)).toNat default)).symm.trans h3)
    rwa [hi1] at h
   refine AWp.skip ?_
   repeat (first|apply zq|apply zb|apply zk)
   apply zr
   intro _
   refine Exists.intro (k + 1) (And.intro ?_ (And.intro ?_ (by omega)))
   ·refine ⟨by omega, by omega, ?_⟩
    rw [ddK_new (fun _ => h3), hk3]
    rw [List.take_add_one, List.getD_eq_getElem?_getD, List.getElem?_eq_getElem hk]; rfl
   ·refine And.intro ?_ (And.intro ⟨_, _, rfl, rfl, fun i hi => rfl⟩ (And.intro trivial trivial))
    repeat' (first|exact rfl|exact trivial|exact congrArg (fun z => some (AV.i64 z)) (wrap_succ hk hm)|refine And.intro ?_ ?_)
 have hk6 : ¬ (k : Int) < L.length := of_decide_eq_false h1
 obtain rfl : k = L.length := by omega
 have hD : ddK L L.length = L := by rw [hk3, List.take_length]
 apply ze
 repeat (first|apply zq|apply zb|apply zk)
 apply zr
 intro _
 refine AWp.trunc 2 1001 (k := L.length) rfl rfl rfl ?_
 refine AWp.ret ⟨Or.inl rfl, ?_⟩
 intro _
 rw [hD]
 exact And.intro rfl (And.intro rfl (And.intro ⟨_, _, rfl, rfl, fun i hi => rfl⟩ (And.intro trivial trivial)))
end Go.Proofs.Ytjjgjflbhpoloaa

/- Outputs, mach.Check and the document's OutputFault. Condition: arguments as they come in. -/
import Derived.Test.YtbmccmbgnkbmiaaGreatDom
set_option linter.unusedVariables false
set_option linter.unusedSimpArgs false
namespace Go.Proofs.YtbmccmbgnkbmiaaGreat
open Go Go.Abs Go.RowKit
structure Plc where
 (Kind Class N:Int)
deriving DecidableEq,Inhabited
structure Mov where
 (From To:Plc)
deriving DecidableEq,Inhabited
structure Edt where
 (Block At:Int)
 Moves:List Mov
deriving DecidableEq,Inhabited
structure Oup where
 Places:List (List (List Plc))
 Edits:List Edt
 Frame:Int
deriving DecidableEq,Inhabited
@[reducible] def Plc.cells (p:Plc):List AV:=[.i64 p.Kind,.i64 p.Class,.i64 p.N]
@[reducible] def Plc.av (p:Plc):AV:=.agg p.cells
@[reducible] def Mov.cells (m:Mov):List AV:=[.i64 m.From.Kind,.i64 m.From.Class,.i64 m.From.N,.i64 m.To.Kind,.i64 m.To.Class,.i64 m.To.N]
@[reducible] def Mov.av (m:Mov):AV:=.agg m.cells
@[reducible] def Edt.cells (e:Edt):List AV:=[.i64 e.Block,.i64 e.At,roL 6 Mov.cells e.Moves]
@[reducible] def plc1 (l:List Plc):List AV:=[roL 3 Plc.cells l]
@[reducible] def plc2 (l:List (List Plc)):List AV:=[roL 1 plc1 l]
@[reducible] def Oup.cells (o:Oup):List AV:=[roL 1 plc2 o.Places,roL 3 Edt.cells o.Edits,.i64 o.Frame]
@[reducible] def Oup.av (o:Oup):AV:=.agg o.cells
def Plc.ok (p:Plc):Prop:=In64 p.Kind∧In64 p.Class∧In64 p.N
def Mov.ok (m:Mov):Prop:=m.From.ok∧m.To.ok
def Edt.ok (e:Edt):Prop:=In64 e.Block∧In64 e.At∧LOk 48 Mov.ok e.Moves
def Oup.ok (o:Oup):Prop:=LOk 24 (fun r=>LOk 24 (fun q=>LOk 24 Plc.ok q) r) o.Places∧LOk 40 Edt.ok o.Edits∧In64 o.Frame
theorem o_plc:OpensC Tryz.prog 57 fun avs=>∃ o:Plc,avs=o.cells∧Plc.ok o :=
 (opens_fields Tryz.underlying57 (Ss:=[SI,SI,SI]) (by kernel_rfl) ⟨o_int,o_int,o_int,zt⟩).mono (by
  rintro avs ⟨_,_,⟨a,rfl,wa⟩,⟨_,_,⟨b,rfl,wb⟩,⟨_,_,⟨c,rfl,wc⟩,rfl,rfl⟩,rfl⟩,rfl⟩
  exact ⟨⟨a,b,c⟩,rfl,wa,wb,wc⟩)
def SPl (avs:List AV):Prop:=∃ o:Plc,avs=o.cells∧Plc.ok o
theorem gA {a b:Bool} (h:(a&&b)=true):(a&&(b==true))=true:=by cases a<;>cases b<;>simp_all
def regF (m:Mch) (c:Int):Int:=[m.r0,m.r1].getD c.toNat 0
def placeF (m:Mch) (fr:Int) (p:Plc):Bool :=
 if p.Kind=1 then decide (0≤p.Class∧p.Class<2∧0≤p.N∧p.N<regF m p.Class)
 else if p.Kind=2 then decide (p.Class=0∧0≤p.N∧p.N<fr) else false
def endF (m:Mch) (fr:Int) (p:Plc):Bool :=
 if p.Kind=1∧0≤p.Class∧p.Class<2∧p.N=regF m p.Class then true else placeF m fr p
def movF (m:Mch) (fr:Int) (x:Mov):Int :=
 if endF m fr x.From=false∨endF m fr x.To=false then 2
 else if x.From.Kind=2∧x.To.Kind=2 then 13
 else if x.From.Kind=1∧x.To.Kind=1∧x.From.Class≠x.To.Class then 17 else 0
theorem reg_range {m:Mch} (hm:machF m=0) (c:Nat):0≤[m.r0,m.r1].getD c 0∧[m.r0,m.r1].getD c 0≤10:=by
 have h:inB m.r0 2 10=true∧inB m.r1 2 10=true:=by
  unfold machF at hm
  split at hm
  ·rename_i h; simpa using h
  ·cases hm
 have h1:=h.1
 have h2:=h.2
 unfold inB at h1 h2
 simp only [Bool.and_eq_true,decide_eq_true_eq] at h1 h2
 match c with
 | 0=>simp; omega
 | 1=>simp; omega
 | c+2=>simp
set_option maxHeartbeats 600000 in
theorem c_placeMay (m:Mch) (hm:machF m=0) (fr:Int) (hf:0≤fr∧fr≤1000) (p:Plc) (s:Bool):ACallIs B.P 25 [m.av,.i64 fr,p.av,.bool s] (.bool (bif s then endF m fr p else placeF m fr p)):=by
 have h1:IntKind.i64.wrap (fr - 1)=fr - 1:=wrap_in (by omega) (by omega)
 have h2:∀ c:Nat,IntKind.i64.wrap ([m.r0,m.r1].getD c 0 - 1)=[m.r0,m.r1].getD c 0 - 1:=fun c=>by have:=reg_range hm c; exact wrap_in (by omega) (by omega)
 have h3:∀ a b c:Int,(decide (a≤b)=decide (a≤c))↔((a≤b)↔(a≤c)):=fun a b c=>by simp
 refine ACallIs.enter B _ _ Tryz.func25 rfl rfl Tryz.ntmps25 Tryz.results25 rfl fun _=>?_
 repeat (first|apply zq|apply zb|apply zk)
 apply zr;intro _
 refine AWp.freezeObj 4 rfl rfl ?_
 refine AWp.freezeObj 6 rfl rfl ?_
 repeat' (first
  | apply zq|apply zb|apply zk|apply ze
  | apply zr|refine AWp.draw mixed (by kernel_rfl) ?_
  | refine AWp.cond (zi (fun h=>?_) (fun h=>?_))
  | refine AWp.ret ⟨Or.inl rfl,rfl,?_⟩
  | refine CallX.pure (c_In _ _ _) rfl rfl rfl ?_|refine CallK.intro (fun _=>c_In _ _ _) ?_
  | exact zt|apply zi|intro _)
 all_goals first|assumption|skip
 all_goals try simp only [h1,h2] at *
 all_goals cases s
 all_goals first
  | assumption
  | (refine tupB (Bool.eq_iff_iff.2 ?_); (try simp only [bif_if,inB,endF,placeF,regF,Bool.and_eq_true,Bool.or_eq_true,decide_eq_true_eq] at *); grind)
  | ((try simp only [tupOf,bif_if,inB,endF,placeF,regF] at *); grind)
def sumM (l:List Edt):Nat→Nat
 | 0=>0
 | i+1=>sumM l i+(l.getD i default).Moves.length
def movG (m:Mch) (fr:Int) (e:Edt) (k:Nat):Int:=movF m fr (e.Moves.getD k default)
def edR (f:Fun) (x:Edt):Prop:=x.Block<0∨(f.Blocks.length:Int)≤x.Block∨x.At<0∨((f.Blocks.getD x.Block.toNat default).Instrs.length:Int)<x.At
def edP (y x:Edt):Prop:=x.Block<y.Block∨(y.Block=x.Block∧x.At≤y.At)
open Classical in
noncomputable def edtG (f:Fun) (m:Mch) (o:Oup) (i:Nat):Int :=
 if edR f (o.Edits.getD i default) then 2
 else if 0<i∧edP (o.Edits.getD (i - 1) default) (o.Edits.getD i default) then 4
 else if 20000<sumM o.Edits (i+1) then 1
 else firstF (movG m o.Frame (o.Edits.getD i default)) (o.Edits.getD i default).Moves.length
def opG (m:Mch) (fr:Int) (l:List Plc) (k:Nat):Int:=if placeF m fr (l.getD k default)=true then 0 else 2
def plAt (o:Oup) (b i:Nat):List Plc:=(o.Places.getD b default).getD i default
def inG (f:Fun) (m:Mch) (o:Oup) (b i:Nat):Int :=
 if (plAt o b i).length≠((f.Blocks.getD b default).Instrs.getD i default).Operands.length then 4
 else firstF (opG m o.Frame (plAt o b i)) (plAt o b i).length
def bkG (f:Fun) (m:Mch) (o:Oup) (b:Nat):Int :=
 if (o.Places.getD b default).length≠(f.Blocks.getD b default).Instrs.length then 4
 else firstF (inG f m o b) (f.Blocks.getD b default).Instrs.length
noncomputable def outF (f:Fun) (m:Mch) (o:Oup):Int :=
 if flwF f m≠0 then flwF f m
 else if o.Frame<0∨1000<o.Frame then 1
 else if o.Places.length≠f.Blocks.length then 4
 else if firstF (bkG f m o) f.Blocks.length≠0 then firstF (bkG f m o) f.Blocks.length
 else firstF (edtG f m o) o.Edits.length
section
variable {f : Fun} {m : Mch} {o : Oup}
end
theorem flw_mach {f:Fun} {m:Mch} (h0:flwF f m=0):machF m=0:=by
 have h:chkF f m=0:=Classical.byContradiction fun hn=>by rw [flwF_1 hn] at h0; exact hn h0
 exact Classical.byContradiction fun hn=>hn (by rw [chkF_1 hn] at h; exact h)
end Go.Proofs.YtbmccmbgnkbmiaaGreat

/- Outputs by their places: plain model, the runner, mach.Run, OutputRun. -/
import Derived.Test.YtbmccmbgnkbmiaaGreatMch
import Derived.Test.YtbmccmbgnkbmiaaGreatSrc
import Derived.Test.YtbmccmbgnkbmiaaGreatQui
set_option linter.unusedVariables false
set_option linter.unusedSimpArgs false
namespace Go.Proofs.YtbmccmbgnkbmiaaGreat
open Go Go.Abs Go.RowKit Go.Abs.Gra
def celF (p:Plc):Nat:=if p.Kind=2 then 22+p.N.toNat else 11 * p.Class.toNat+p.N.toNat
theorem celF_slot {p:Plc} (h:p.Kind=2):celF p=22+p.N.toNat:=if_pos h
theorem celF_reg {p:Plc} (h:p.Kind=1):celF p=11 * p.Class.toNat+p.N.toNat:=if_neg (by omega)
def PlOk (fr:Nat) (p:Plc):Prop:=(p.Kind=1∧0≤p.Class∧p.Class<2∧0≤p.N∧p.N≤10)∨(p.Kind=2∧p.Class=0∧0≤p.N∧p.N<fr)
theorem PlOk.lt {fr:Nat} {p:Plc} (h:PlOk fr p):celF p<22+fr:=by
 rcases h with h|h
 ·rw [celF_reg h.1]; omega
 ·rw [celF_slot h.1]; omega
def nxF (J:List Int) (n:Nat):Int:=if J.length=0 then 0 else (n:Int)
section
variable (f : Fun) (o : Oup) (J : List Int) (seed : Int)
end
section
variable {f : Fun} {o : Oup} {J : List Int} {seed : Int}
end
def rnL (f:Fun) (o:Oup) (J:List Int) (seed left:Int) (C:Nat→Int) (w:Nat) (s sn e en:Nat):List AV :=
 f.cells++o.cells++[.i64 seed,.i64 left,.i64 (C 0),.i64 (C 1),.i64 (C 2),.i64 (C 3),.i64 (C 4),.i64 (C 5),.i64 (C 6),.i64 (C 7),.i64 (C 8),.i64 (C 9),.i64 (C 10),.i64 (C 11),.i64 (C 12),.i64 (C 13),.i64 (C 14),.i64 (C 15),.i64 (C 16),.i64 (C 17),.i64 (C 18),.i64 (C 19),.i64 (C 20),.i64 (C 21),.sl ⟨s,[]⟩ sn,ints J,.i64 (nxF J w),.sl ⟨e,[]⟩ en]
section
variable {f : Fun} {o : Oup} {J : List Int} {seed left : Int} {C C' : Nat → Int} {w s sn e en : Nat}
theorem rnL_len:(rnL f o J seed left C w s sn e en).length=33:=rfl
theorem rnL_get:∀ {i:Nat},i<22→((rnL f o J seed left C w s sn e en).drop (7+i)).headD .any=.i64 (C i)
 | 0,_=>rfl
 | 1,_=>rfl
 | 2,_=>rfl
 | 3,_=>rfl
 | 4,_=>rfl
 | 5,_=>rfl
 | 6,_=>rfl
 | 7,_=>rfl
 | 8,_=>rfl
 | 9,_=>rfl
 | 10,_=>rfl
 | 11,_=>rfl
 | 12,_=>rfl
 | 13,_=>rfl
 | 14,_=>rfl
 | 15,_=>rfl
 | 16,_=>rfl
 | 17,_=>rfl
 | 18,_=>rfl
 | 19,_=>rfl
 | 20,_=>rfl
 | 21,_=>rfl
 | _+22,h=>absurd h (by omega)
end
section
variable {f : Fun} {o : Oup} {J : List Int} {seed left : Int} {C C' : Nat → Int} {w s sn e en : Nat}
end
theorem PlOk.reg {fr:Nat} {p:Plc} (h:PlOk fr p) (hk:p.Kind=1):(0≤p.Class∧p.Class<2)∧(0≤p.N∧p.N<11)∧celF p<22:=by
 rcases h with h|h
 ·exact ⟨h.2.1 |> fun a=>⟨a,h.2.2.1⟩,by omega,by rw [celF_reg hk]; omega⟩
 ·omega
theorem PlOk.kind {fr:Nat} {p:Plc} (h:PlOk fr p):p.Kind=1∨p.Kind=2:=by
 rcases h with h|h
 ·exact .inl h.1
 ·exact .inr h.1
section
variable {x : Ins} {p : List Plc} {C C2 : Nat → Int} {k q : Nat}
end
structure OutOk (f:Fun) (m:Mch) (o:Oup) (fr:Nat):Prop where
 mch:machF m=0
 chk0:chkF f m=0
 frm:o.Frame=fr
 small:fr≤1000
 pl:o.Places.length=f.Blocks.length
 row:∀ b,b<f.Blocks.length→(o.Places.getD b default).length=(f.Blocks.getD b default).Instrs.length
 ops:∀ b i,b<f.Blocks.length→i<(f.Blocks.getD b default).Instrs.length→(plAt o b i).length=(insAt f b i).Operands.length
 at_:∀ b i k,b<f.Blocks.length→i<(f.Blocks.getD b default).Instrs.length→k<(insAt f b i).Operands.length→PlOk fr ((plAt o b i).getD k default)
 mv:∀ i k,i<o.Edits.length→k<(o.Edits.getD i default).Moves.length→PlOk fr ((o.Edits.getD i default).Moves.getD k default).From∧PlOk fr ((o.Edits.getD i default).Moves.getD k default).To
 spo:∀ b i k,b<f.Blocks.length→i<(f.Blocks.getD b default).Instrs.length→k<(insAt f b i).Spoils.length→(0≤((insAt f b i).Spoils.getD k default).Class∧((insAt f b i).Spoils.getD k default).Class<2)∧(0≤((insAt f b i).Spoils.getD k default).N∧((insAt f b i).Spoils.getD k default).N<11)
noncomputable def resF (f:Fun) (m:Mch) (o:Oup) (J:List Int) (n:Int):Int :=
 if outF f m o≠0 then outF f m o else if n<0∨5000<n then 2 else if 64<J.length then 1 else 0
section
variable {f : Fun} {m : Mch} {o : Oup} {J : List Int} {n : Int}
end
end Go.Proofs.YtbmccmbgnkbmiaaGreat

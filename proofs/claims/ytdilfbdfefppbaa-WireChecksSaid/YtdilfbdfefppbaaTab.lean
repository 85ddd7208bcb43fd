/- The seat's own tables of types; how arguments of each type are opened. No condition. -/
import Derived.Test.YtdilfbdfefppbaaData
import Derived.Test.YtdilfbdfefppbaaChecked
import Derived.KernelRfl
set_option linter.unusedVariables false
set_option linter.unusedSimpArgs false
namespace Go.Proofs.Ytdilfbdfefppbaa
open Go Go.Abs Go.RowKit

def tab : List (Nat × TI) := [(1, .scalar),
  (2, .int .i64),
  (3, .int .i64),
  (4, .bool),
  (5, .int .u8),
  (9, .scalar),
  (12, .int .u64),
  (13, .struct 2 [(0, 1), (1, 1)]),
  (21, .int .i32),
  (22, .int .i64),
  (23, .slice 22 1 8),
  (24, .slice 3 1 8),
  (25, .scalar),
  (26, .slice 52 3 72),
  (27, .struct 2 [(0, 1), (1, 1)]),
  (28, .struct 2 [(0, 1), (1, 1)]),
  (29, .scalar),
  (30, .scalar),
  (31, .scalar),
  (32, .scalar),
  (33, .scalar),
  (34, .scalar),
  (35, .array 2 1 true),
  (1000035, .leaves 35 [.int, .int]),
  (36, .struct 2 [(0, 2)]),
  (1000036, .leaves 36 [.int, .int]),
  (37, .struct 2 [(0, 2)]),
  (1000037, .leaves 37 [.int, .int]),
  (38, .scalar),
  (39, .scalar),
  (40, .slice 47 5 40),
  (41, .slice 108 2 16),
  (42, .struct 3 [(0, 1), (1, 1), (2, 1)]),
  (43, .struct 3 [(0, 1), (1, 1), (2, 1)]),
  (44, .scalar),
  (45, .scalar),
  (46, .struct 5 [(0, 1), (1, 1), (2, 1), (3, 1), (4, 1)]),
  (1000046, .leaves 46 [.int, .int, .bool, .int, .int]),
  (47, .struct 5 [(0, 1), (1, 1), (2, 1), (3, 1), (4, 1)]),
  (1000047, .leaves 47 [.int, .int, .bool, .int, .int]),
  (48, .scalar),
  (49, .slice 43 3 56),
  (50, .slice 86 2 32),
  (51, .struct 3 [(0, 1), (1, 1), (2, 1)]),
  (52, .struct 3 [(0, 1), (1, 1), (2, 1)]),
  (53, .scalar),
  (54, .scalar),
  (55, .slice 63 6 48),
  (56, .scalar),
  (58, .scalar),
  (59, .scalar),
  (60, .struct 3 [(0, 1), (1, 1), (2, 1)]),
  (1000060, .leaves 60 [.int, .int, .int]),
  (61, .struct 3 [(0, 1), (1, 1), (2, 1)]),
  (1000061, .leaves 61 [.int, .int, .int]),
  (62, .struct 6 [(0, 3), (3, 3)]),
  (1000062, .leaves 62 [.int, .int, .int, .int, .int, .int]),
  (63, .struct 6 [(0, 3), (3, 3)]),
  (1000063, .leaves 63 [.int, .int, .int, .int, .int, .int]),
  (64, .scalar),
  (65, .scalar),
  (66, .scalar),
  (67, .scalar),
  (68, .struct 7 [(0, 2), (2, 2), (4, 1), (5, 1), (6, 1)]),
  (69, .struct 7 [(0, 2), (2, 2), (4, 1), (5, 1), (6, 1)]),
  (70, .scalar),
  (71, .scalar),
  (72, .scalar),
  (73, .scalar),
  (74, .scalar),
  (75, .scalar),
  (76, .struct 8 [(0, 2), (2, 1), (3, 1), (4, 3), (7, 1)]),
  (77, .struct 8 [(0, 2), (2, 1), (3, 1), (4, 3), (7, 1)]),
  (78, .scalar),
  (80, .scalar),
  (81, .scalar),
  (82, .scalar),
  (83, .scalar),
  (84, .scalar),
  (85, .struct 2 [(0, 1), (1, 1)]),
  (86, .struct 2 [(0, 1), (1, 1)]),
  (87, .scalar),
  (88, .scalar),
  (89, .scalar),
  (90, .slice 24 1 24),
  (91, .scalar),
  (92, .scalar),
  (93, .scalar),
  (94, .slice 4 1 1),
  (95, .scalar),
  (96, .scalar),
  (97, .scalar),
  (98, .scalar),
  (99, .scalar),
  (100, .scalar),
  (101, .scalar),
  (102, .scalar),
  (103, .scalar),
  (104, .scalar),
  (105, .scalar),
  (106, .scalar),
  (107, .struct 2 [(0, 1), (1, 1)]),
  (1000107, .leaves 107 [.int, .int]),
  (108, .struct 2 [(0, 1), (1, 1)]),
  (1000108, .leaves 108 [.int, .int]),
  (109, .scalar),
  (110, .scalar),
  (111, .slice 115 2 16),
  (112, .scalar),
  (113, .scalar),
  (114, .struct 2 [(0, 1), (1, 1)]),
  (1000114, .leaves 114 [.int, .int]),
  (115, .struct 2 [(0, 1), (1, 1)]),
  (1000115, .leaves 115 [.int, .int]),
  (116, .scalar),
  (117, .scalar),
  (118, .scalar),
  (119, .scalar),
  (120, .scalar),
  (121, .scalar),
  (122, .scalar),
  (124, .scalar),
  (125, .scalar),
  (126, .scalar),
  (127, .scalar),
  (128, .scalar),
  (129, .scalar),
  (130, .int .u64),
  (132, .scalar),
  (133, .scalar),
  (134, .int .u32),
  (136, .scalar),
  (137, .int .u64),
  (139, .scalar),
  (140, .scalar),
  (148, .scalar),
  (149, .scalar)]
def ztab : List (Nat × List Value) := [(1, [.nilFunc]),
  (2, [.int .i64 0]),
  (3, [.int .i64 0]),
  (4, [.bool false]),
  (5, [.int .u8 0]),
  (9, [.string ByteArray.empty]),
  (12, [.int .u64 0]),
  (13, [.string ByteArray.empty, .int .u64 0]),
  (21, [.int .i32 0]),
  (22, [.int .i64 0]),
  (23, [.slice none 0 0]),
  (24, [.slice none 0 0]),
  (25, [.nilFunc]),
  (26, [.slice none 0 0]),
  (27, [.slice none 0 0, .slice none 0 0]),
  (28, [.slice none 0 0, .slice none 0 0]),
  (29, [.nilFunc]),
  (30, [.nilFunc]),
  (31, [.nilFunc]),
  (32, [.nilFunc]),
  (33, [.nilFunc]),
  (34, [.nilFunc]),
  (35, [.int .i64 0, .int .i64 0]),
  (36, [.int .i64 0, .int .i64 0]),
  (37, [.int .i64 0, .int .i64 0]),
  (38, [.nilFunc]),
  (39, [.nilFunc]),
  (40, [.slice none 0 0]),
  (41, [.slice none 0 0]),
  (42, [.int .i64 0, .slice none 0 0, .slice none 0 0]),
  (43, [.int .i64 0, .slice none 0 0, .slice none 0 0]),
  (44, [.nilFunc]),
  (45, [.nilFunc]),
  (46, [.int .i64 0, .int .i64 0, .bool false, .int .i64 0, .int .i64 0]),
  (47, [.int .i64 0, .int .i64 0, .bool false, .int .i64 0, .int .i64 0]),
  (48, [.nilFunc]),
  (49, [.slice none 0 0]),
  (50, [.slice none 0 0]),
  (51, [.slice none 0 0, .slice none 0 0, .slice none 0 0]),
  (52, [.slice none 0 0, .slice none 0 0, .slice none 0 0]),
  (53, [.nilFunc]),
  (54, [.nilFunc]),
  (55, [.slice none 0 0]),
  (56, [.nilFunc]),
  (58, [.nilFunc]),
  (59, [.nilFunc]),
  (60, [.int .i64 0, .int .i64 0, .int .i64 0]),
  (61, [.int .i64 0, .int .i64 0, .int .i64 0]),
  (62, [.int .i64 0, .int .i64 0, .int .i64 0, .int .i64 0, .int .i64 0, .int .i64 0]),
  (63, [.int .i64 0, .int .i64 0, .int .i64 0, .int .i64 0, .int .i64 0, .int .i64 0]),
  (64, [.nilFunc]),
  (65, [.nilFunc]),
  (66, [.nilFunc]),
  (67, [.nilFunc]),
  (68, [.int .i64 0, .int .i64 0, .slice none 0 0, .slice none 0 0, .int .i64 0, .int .i64 0, .slice none 0 0]),
  (69, [.int .i64 0, .int .i64 0, .slice none 0 0, .slice none 0 0, .int .i64 0, .int .i64 0, .slice none 0 0]),
  (70, [.nilFunc]),
  (71, [.nilFunc]),
  (72, [.nilFunc]),
  (73, [.nilFunc]),
  (74, [.pointer none]),
  (75, [.map none]),
  (76, [.int .i64 0, .int .i64 0, .slice none 0 0, .map none, .int .i64 0, .int .i64 0, .int .i64 0, .slice none 0 0]),
  (77, [.int .i64 0, .int .i64 0, .slice none 0 0, .map none, .int .i64 0, .int .i64 0, .int .i64 0, .slice none 0 0]),
  (78, [.nilFunc]),
  (80, [.nilFunc]),
  (81, [.nilFunc]),
  (82, [.nilFunc]),
  (83, [.nilFunc]),
  (84, [.nilFunc]),
  (85, [.int .i64 0, .slice none 0 0]),
  (86, [.int .i64 0, .slice none 0 0]),
  (87, [.nilFunc]),
  (88, [.nilFunc]),
  (89, [.nilFunc]),
  (90, [.slice none 0 0]),
  (91, [.nilFunc]),
  (92, [.nilFunc]),
  (93, [.nilFunc]),
  (94, [.slice none 0 0]),
  (95, [.nilFunc]),
  (96, [.nilFunc]),
  (97, [.nilFunc]),
  (98, [.nilFunc]),
  (99, [.nilFunc]),
  (100, [.nilFunc]),
  (101, [.nilFunc]),
  (102, [.nilFunc]),
  (103, [.nilFunc]),
  (104, [.nilFunc]),
  (105, [.nilFunc]),
  (106, [.nilFunc]),
  (107, [.int .i64 0, .int .i64 0]),
  (108, [.int .i64 0, .int .i64 0]),
  (109, [.nilFunc]),
  (110, [.nilFunc]),
  (111, [.slice none 0 0]),
  (112, [.nilFunc]),
  (113, [.nilFunc]),
  (114, [.int .i64 0, .int .i64 0]),
  (115, [.int .i64 0, .int .i64 0]),
  (116, [.nilFunc]),
  (117, [.nilFunc]),
  (118, [.nilFunc]),
  (119, [.nilFunc]),
  (120, [.nilFunc]),
  (121, [.nilFunc]),
  (122, [.nilFunc]),
  (124, [.nilFunc]),
  (125, [.nilFunc]),
  (126, [.nilFunc]),
  (127, [.nilFunc]),
  (128, [.nilFunc]),
  (129, [.nilFunc]),
  (130, [.int .u64 0]),
  (132, [.nilFunc]),
  (133, [.nilFunc]),
  (134, [.int .u32 0]),
  (136, [.nilFunc]),
  (137, [.int .u64 0]),
  (139, [.nilFunc]),
  (140, [.nilFunc]),
  (148, [.nilFunc]),
  (149, [.pointer none])]
theorem tab_ok : tabB Try.prog tab = true := by kernel_rfl
theorem ztab_ok : ZOK Try.prog ztab := ⟨by kernel_rfl, by kernel_rfl, by kernel_rfl, by kernel_rfl, by kernel_rfl, by kernel_rfl, by kernel_rfl, by kernel_rfl, by kernel_rfl, by kernel_rfl, by kernel_rfl, by kernel_rfl, by kernel_rfl, by kernel_rfl, by kernel_rfl, by kernel_rfl, by kernel_rfl, by kernel_rfl, by kernel_rfl, by kernel_rfl, by kernel_rfl, by kernel_rfl, by kernel_rfl, by kernel_rfl, by kernel_rfl, by kernel_rfl, by kernel_rfl, by kernel_rfl, by kernel_rfl, by kernel_rfl, by kernel_rfl, by kernel_rfl, by kernel_rfl, by kernel_rfl, by kernel_rfl, by kernel_rfl, by kernel_rfl, by kernel_rfl, by kernel_rfl, by kernel_rfl, by kernel_rfl, by kernel_rfl, by kernel_rfl, by kernel_rfl, by kernel_rfl, by kernel_rfl, by kernel_rfl, by kernel_rfl, by kernel_rfl, by kernel_rfl, by kernel_rfl, by kernel_rfl, by kernel_rfl, by kernel_rfl, by kernel_rfl, by kernel_rfl, by kernel_rfl, by kernel_rfl, by kernel_rfl, by kernel_rfl, by kernel_rfl, by kernel_rfl, by kernel_rfl, by kernel_rfl, by kernel_rfl, by kernel_rfl, by kernel_rfl, by kernel_rfl, by kernel_rfl, by kernel_rfl, by kernel_rfl, by kernel_rfl, by kernel_rfl, by kernel_rfl, by kernel_rfl, by kernel_rfl, by kernel_rfl, by kernel_rfl, by kernel_rfl, by kernel_rfl, by kernel_rfl, by kernel_rfl, by kernel_rfl, by kernel_rfl, by kernel_rfl, by kernel_rfl, by kernel_rfl, by kernel_rfl, by kernel_rfl, by kernel_rfl, by kernel_rfl, by kernel_rfl, by kernel_rfl, by kernel_rfl, by kernel_rfl, by kernel_rfl, by kernel_rfl, by kernel_rfl, by kernel_rfl, by kernel_rfl, by kernel_rfl, by kernel_rfl, by kernel_rfl, by kernel_rfl, by kernel_rfl, by kernel_rfl, by kernel_rfl, by kernel_rfl, by kernel_rfl, by kernel_rfl, by kernel_rfl, by kernel_rfl, by kernel_rfl, by kernel_rfl, by kernel_rfl, by kernel_rfl, by kernel_rfl, by kernel_rfl, by kernel_rfl, by kernel_rfl, by kernel_rfl, by kernel_rfl, by kernel_rfl, by kernel_rfl, trivial⟩
noncomputable def B : Tabs := ⟨Try.prog, tab, ztab, tab_ok, ztab_ok⟩
theorem mixed : B.P.follows .mixedOrders = true := by kernel_rfl
theorem own : ownKnob Try.prog.godebug = none := by kernel_rfl
theorem laidOut : laidOutB Try.prog = true := by kernel_rfl

def In64 (n : Int) : Prop := -9223372036854775808 ≤ n ∧ n ≤ 9223372036854775807
def SI (avs : List AV) : Prop := ∃ n : Int, avs = [.i64 n] ∧ In64 n
def SL {α : Type} [Inhabited α] (by_ sz : Nat) (enc : α → List AV) (p : α → Prop) (avs : List AV) : Prop := ∃ l : List α, avs = [roL sz enc l] ∧ LOk by_ p l
def SB (avs : List AV) : Prop := ∃ b : Bool, avs = [.bool b]
theorem o_int : OpensC Try.prog 3 SI := opens_int Try.underlying3
theorem o_bool : OpensC Try.prog 4 SB := opens_bool Try.underlying4
theorem o_ints : OpensC Try.prog 24 (SL 8 1 intC In64) :=
  opens_slice (sz := 1) Try.underlying24 (by kernel_rfl) (by decide) (fun _ => rfl) (by kernel_rfl) (o_int.mono fun avs ⟨n, h, hw⟩ => ⟨n, h, hw⟩)
def Opd.ok (o : Opd) : Prop := In64 o.Kind ∧ In64 o.Value ∧ In64 o.Limit ∧ In64 o.N
theorem o_opd : OpensC Try.prog 47 fun avs => ∃ o : Opd, avs = o.cells ∧ Opd.ok o :=
  (opens_fields Try.underlying47 (Ss := [SI, SI, SB, SI, SI]) (by kernel_rfl) ⟨o_int, o_int, o_bool, o_int, o_int, trivial⟩).mono (by
    rintro avs ⟨_, _, ⟨a, rfl, wa⟩, ⟨_, _, ⟨b, rfl, wb⟩, ⟨_, _, ⟨c, rfl⟩, ⟨_, _, ⟨d, rfl, wd⟩, ⟨_, _, ⟨e, rfl, we⟩, rfl, rfl⟩, rfl⟩, rfl⟩, rfl⟩, rfl⟩
    exact ⟨⟨a, b, c, d, e⟩, rfl, wa, wb, wd, we⟩)
def Rg.ok (r : Rg) : Prop := In64 r.Class ∧ In64 r.N
theorem o_rg : OpensC Try.prog 108 fun avs => ∃ o : Rg, avs = o.cells ∧ Rg.ok o :=
  (opens_fields Try.underlying108 (Ss := [SI, SI]) (by kernel_rfl) ⟨o_int, o_int, trivial⟩).mono (by
    rintro avs ⟨_, _, ⟨a, rfl, wa⟩, ⟨_, _, ⟨b, rfl, wb⟩, rfl, rfl⟩, rfl⟩
    exact ⟨⟨a, b⟩, rfl, wa, wb⟩)
def Ins.ok (x : Ins) : Prop := In64 x.Op ∧ LOk 40 Opd.ok x.Operands ∧ LOk 16 Rg.ok x.Spoils
theorem o_opds : OpensC Try.prog 40 (SL 40 5 Opd.cells Opd.ok) :=
  opens_slice (sz := 5) Try.underlying40 (by kernel_rfl) (by decide) (fun _ => rfl) (by kernel_rfl) o_opd
theorem o_rgs : OpensC Try.prog 41 (SL 16 2 Rg.cells Rg.ok) :=
  opens_slice (sz := 2) Try.underlying41 (by kernel_rfl) (by decide) (fun _ => rfl) (by kernel_rfl) o_rg
theorem o_ins : OpensC Try.prog 43 fun avs => ∃ o : Ins, avs = o.cells ∧ Ins.ok o :=
  (opens_fields Try.underlying43 (Ss := [SI, SL 40 5 Opd.cells Opd.ok, SL 16 2 Rg.cells Rg.ok]) (by kernel_rfl) ⟨o_int, o_opds, o_rgs, trivial⟩).mono (by
    rintro avs ⟨_, _, ⟨a, rfl, wa⟩, ⟨_, _, ⟨b, rfl, wb⟩, ⟨_, _, ⟨c, rfl, wc⟩, rfl, rfl⟩, rfl⟩, rfl⟩
    exact ⟨⟨a, b, c⟩, rfl, wa, wb, wc⟩)
def Edg.ok (x : Edg) : Prop := In64 x.Block ∧ LOk 8 In64 x.Args
theorem o_edg : OpensC Try.prog 86 fun avs => ∃ o : Edg, avs = o.cells ∧ Edg.ok o :=
  (opens_fields Try.underlying86 (Ss := [SI, SL 8 1 intC In64]) (by kernel_rfl) ⟨o_int, o_ints, trivial⟩).mono (by
    rintro avs ⟨_, _, ⟨a, rfl, wa⟩, ⟨_, _, ⟨b, rfl, wb⟩, rfl, rfl⟩, rfl⟩
    exact ⟨⟨a, b⟩, rfl, wa, wb⟩)
def Blk.ok (x : Blk) : Prop := LOk 8 In64 x.Params ∧ LOk 56 Ins.ok x.Instrs ∧ LOk 32 Edg.ok x.Edges
theorem o_inss : OpensC Try.prog 49 (SL 56 3 Ins.cells Ins.ok) :=
  opens_slice (sz := 3) Try.underlying49 (by kernel_rfl) (by decide) (fun _ => rfl) (by kernel_rfl) o_ins
theorem o_edgs : OpensC Try.prog 50 (SL 32 2 Edg.cells Edg.ok) :=
  opens_slice (sz := 2) Try.underlying50 (by kernel_rfl) (by decide) (fun _ => rfl) (by kernel_rfl) o_edg
theorem o_blk : OpensC Try.prog 52 fun avs => ∃ o : Blk, avs = o.cells ∧ Blk.ok o :=
  (opens_fields Try.underlying52 (Ss := [SL 8 1 intC In64, SL 56 3 Ins.cells Ins.ok, SL 32 2 Edg.cells Edg.ok]) (by kernel_rfl) ⟨o_ints, o_inss, o_edgs, trivial⟩).mono (by
    rintro avs ⟨_, _, ⟨a, rfl, wa⟩, ⟨_, _, ⟨b, rfl, wb⟩, ⟨_, _, ⟨c, rfl, wc⟩, rfl, rfl⟩, rfl⟩, rfl⟩
    exact ⟨⟨a, b, c⟩, rfl, wa, wb, wc⟩)
def Fun.ok (x : Fun) : Prop := LOk 8 In64 x.Values ∧ LOk 72 Blk.ok x.Blocks
theorem o_blks : OpensC Try.prog 26 (SL 72 3 Blk.cells Blk.ok) :=
  opens_slice (sz := 3) Try.underlying26 (by kernel_rfl) (by decide) (fun _ => rfl) (by kernel_rfl) o_blk
theorem o_fun : OpensC Try.prog 28 fun avs => ∃ o : Fun, avs = o.cells ∧ Fun.ok o :=
  (opens_fields Try.underlying28 (Ss := [SL 8 1 intC In64, SL 72 3 Blk.cells Blk.ok]) (by kernel_rfl) ⟨o_ints, o_blks, trivial⟩).mono (by
    rintro avs ⟨_, _, ⟨a, rfl, wa⟩, ⟨_, _, ⟨b, rfl, wb⟩, rfl, rfl⟩, rfl⟩
    exact ⟨⟨a, b⟩, rfl, wa, wb⟩)
def Mch.ok (m : Mch) : Prop := In64 m.r0 ∧ In64 m.r1
theorem o_regs : OpensC Try.prog 35 (SCat [SI, SI]) := opens_array2 Try.underlying35 (by kernel_rfl) (by kernel_rfl) o_int
theorem o_mch : OpensC Try.prog 37 fun avs => ∃ m : Mch, avs = m.cells ∧ Mch.ok m :=
  (opens_fields Try.underlying37 (Ss := [SCat [SI, SI]]) (by kernel_rfl) ⟨o_regs, trivial⟩).mono (by
    rintro avs ⟨_, _, ⟨_, _, ⟨a, rfl, wa⟩, ⟨_, _, ⟨b, rfl, wb⟩, rfl, rfl⟩, rfl⟩, rfl, rfl⟩
    exact ⟨⟨a, b⟩, rfl, wa, wb⟩)

/-- A law that hands back true, as the row's frame asks it. -/
theorem law_calls {f : FuncId} {avs : List AV} (h : ACallIs Try.prog f avs (.bool true)) (w : World) (vs : List Value) (hl : vs.length = avs.length)
    (hr : ∀ (j : Nat) (x : AV), avs[j]? = some x → Rep (fun k => k < w.heap.size) w (fun _ => none) x (vs.getD j undef)) : Calls Try.prog f vs.toArray w fun e w' => e = .returned (.bool true) ∧ Below w.heap.size w w' :=
  (h.out _ w vs (fun _ h => h) hl hr).mono fun e w' ⟨v, F', he, hb, _, _, _, hv⟩ => by
    cases hv; exact ⟨he, hb⟩
end Go.Proofs.Ytdilfbdfefppbaa

/- The seat's own tables of types; how arguments of each type are opened. No condition. -/
import Derived.Test.YtjjgjflbhpoloaaGreatData
import Derived.Test.YtjjgjflbhpoloaaGreatChecked
import Derived.KernelRfl
set_option linter.unusedVariables false
set_option linter.unusedSimpArgs false
namespace Go.Proofs.YtjjgjflbhpoloaaGreat
open Go Go.Abs Go.RowKit
def tab : List (Nat × TI) := [(1, .scalar),
 (2, .int .i64),
 (3, .int .i64),
 (4, .bool),
 (5, .int .u8),
 (9, .str),
 (12, .int .u64),
 (13, .struct 2 [(0, 1), (1, 1)]),
 (21, .int .i32),
 (22, .slice 3 1 8),
 (23, .slice 43 3 72),
 (24, .struct 2 [(0, 1), (1, 1)]),
 (25, .struct 2 [(0, 1), (1, 1)]),
 (26, .array 2 1 true),
 (1000026, .leaves 26 [.int, .int]),
 (27, .struct 2 [(0, 2)]),
 (1000027, .leaves 27 [.int, .int]),
 (28, .struct 2 [(0, 2)]),
 (1000028, .leaves 28 [.int, .int]),
 (29, .int .i64),
 (31, .scalar),
 (32, .scalar),
 (33, .scalar),
 (34, .slice 66 1 24),
 (36, .scalar),
 (37, .scalar),
 (38, .struct 2 [(0, 1), (1, 1)]),
 (39, .struct 2 [(0, 1), (1, 1)]),
 (40, .slice 47 3 56),
 (41, .slice 52 2 32),
 (42, .struct 3 [(0, 1), (1, 1), (2, 1)]),
 (43, .struct 3 [(0, 1), (1, 1), (2, 1)]),
 (44, .slice 49 5 40),
 (45, .slice 147 2 16),
 (46, .struct 3 [(0, 1), (1, 1), (2, 1)]),
 (47, .struct 3 [(0, 1), (1, 1), (2, 1)]),
 (48, .struct 5 [(0, 1), (1, 1), (2, 1), (3, 1), (4, 1)]),
 (1000048, .leaves 48 [.int, .int, .bool, .int, .int]),
 (49, .struct 5 [(0, 1), (1, 1), (2, 1), (3, 1), (4, 1)]),
 (1000049, .leaves 49 [.int, .int, .bool, .int, .int]),
 (50, .scalar),
 (51, .struct 2 [(0, 1), (1, 1)]),
 (52, .struct 2 [(0, 1), (1, 1)]),
 (53, .scalar),
 (54, .scalar),
 (55, .struct 3 [(0, 1), (1, 1), (2, 1)]),
 (56, .struct 3 [(0, 1), (1, 1), (2, 1)]),
 (58, .scalar),
 (59, .scalar),
 (60, .scalar),
 (61, .scalar),
 (62, .struct 2 [(0, 1), (1, 1)]),
 (1000062, .leaves 62 [.int, .int]),
 (63, .struct 2 [(0, 1), (1, 1)]),
 (1000063, .leaves 63 [.int, .int]),
 (65, .scalar),
 (66, .slice 63 2 16),
 (67, .scalar),
 (68, .scalar),
 (69, .scalar),
 (70, .scalar),
 (71, .scalar),
 (72, .slice 4 1 1),
 (73, .scalar),
 (74, .scalar),
 (75, .scalar),
 (76, .scalar),
 (77, .scalar),
 (78, .slice 82 1 24),
 (79, .struct 4 [(0, 2), (2, 1), (3, 1)]),
 (80, .struct 4 [(0, 2), (2, 1), (3, 1)]),
 (81, .slice 106 1 8),
 (82, .slice 106 1 8),
 (83, .scalar),
 (84, .scalar),
 (85, .scalar),
 (86, .scalar),
 (87, .scalar),
 (88, .scalar),
 (89, .scalar),
 (90, .scalar),
 (91, .int .u64),
 (92, .scalar),
 (93, .scalar),
 (94, .scalar),
 (95, .scalar),
 (96, .slice 22 1 24),
 (97, .scalar),
 (98, .scalar),
 (99, .scalar),
 (100, .scalar),
 (101, .scalar),
 (102, .scalar),
 (103, .scalar),
 (104, .scalar),
 (105, .scalar),
 (106, .int .u64),
 (107, .scalar),
 (108, .scalar),
 (109, .scalar),
 (110, .scalar),
 (111, .int .i64),
 (113, .scalar),
 (114, .scalar),
 (115, .scalar),
 (117, .scalar),
 (118, .scalar),
 (119, .int .u32),
 (120, .scalar),
 (121, .scalar),
 (122, .scalar),
 (123, .scalar),
 (124, .scalar),
 (125, .scalar),
 (126, .scalar),
 (127, .scalar),
 (128, .slice 132 2 16),
 (129, .scalar),
 (130, .scalar),
 (131, .struct 2 [(0, 1), (1, 1)]),
 (1000131, .leaves 131 [.int, .int]),
 (132, .struct 2 [(0, 1), (1, 1)]),
 (1000132, .leaves 132 [.int, .int]),
 (133, .scalar),
 (134, .scalar),
 (135, .scalar),
 (136, .int .u64),
 (137, .scalar),
 (138, .scalar),
 (139, .scalar),
 (140, .scalar),
 (141, .scalar),
 (142, .scalar),
 (143, .scalar),
 (144, .scalar),
 (145, .scalar),
 (146, .struct 2 [(0, 1), (1, 1)]),
 (1000146, .leaves 146 [.int, .int]),
 (147, .struct 2 [(0, 1), (1, 1)]),
 (1000147, .leaves 147 [.int, .int]),
 (148, .scalar),
 (149, .scalar),
 (150, .scalar),
 (152, .scalar),
 (153, .scalar),
 (154, .scalar),
 (156, .scalar),
 (157, .scalar),
 (158, .scalar),
 (159, .scalar),
 (161, .scalar),
 (162, .scalar),
 (163, .scalar),
 (165, .scalar),
 (167, .scalar),
 (168, .scalar),
 (169, .scalar),
 (175, .scalar),
 (178, .scalar),
 (179, .scalar)]
def ztab : List (Nat × List Value) := [(1, [.nilFunc]),
 (2, [.int .i64 0]),
 (3, [.int .i64 0]),
 (4, [.bool false]),
 (5, [.int .u8 0]),
 (9, [.string ByteArray.empty]),
 (12, [.int .u64 0]),
 (13, [.string ByteArray.empty, .int .u64 0]),
 (21, [.int .i32 0]),
 (22, [.slice none 0 0]),
 (23, [.slice none 0 0]),
 (24, [.slice none 0 0, .slice none 0 0]),
 (25, [.slice none 0 0, .slice none 0 0]),
 (26, [.int .i64 0, .int .i64 0]),
 (27, [.int .i64 0, .int .i64 0]),
 (28, [.int .i64 0, .int .i64 0]),
 (29, [.int .i64 0]),
 (31, [.nilFunc]),
 (32, [.nilFunc]),
 (33, [.nilFunc]),
 (34, [.slice none 0 0]),
 (36, [.nilFunc]),
 (37, [.pointer none]),
 (38, [.slice none 0 0, .slice none 0 0]),
 (39, [.slice none 0 0, .slice none 0 0]),
 (40, [.slice none 0 0]),
 (41, [.slice none 0 0]),
 (42, [.slice none 0 0, .slice none 0 0, .slice none 0 0]),
 (43, [.slice none 0 0, .slice none 0 0, .slice none 0 0]),
 (44, [.slice none 0 0]),
 (45, [.slice none 0 0]),
 (46, [.int .i64 0, .slice none 0 0, .slice none 0 0]),
 (47, [.int .i64 0, .slice none 0 0, .slice none 0 0]),
 (48, [.int .i64 0, .int .i64 0, .bool false, .int .i64 0, .int .i64 0]),
 (49, [.int .i64 0, .int .i64 0, .bool false, .int .i64 0, .int .i64 0]),
 (50, [.nilFunc]),
 (51, [.int .i64 0, .slice none 0 0]),
 (52, [.int .i64 0, .slice none 0 0]),
 (53, [.nilFunc]),
 (54, [.nilFunc]),
 (55, [.slice none 0 0, .slice none 0 0, .slice none 0 0]),
 (56, [.slice none 0 0, .slice none 0 0, .slice none 0 0]),
 (58, [.nilFunc]),
 (59, [.pointer none]),
 (60, [.nilFunc]),
 (61, [.nilFunc]),
 (62, [.int .i64 0, .int .i64 0]),
 (63, [.int .i64 0, .int .i64 0]),
 (65, [.nilFunc]),
 (66, [.slice none 0 0]),
 (67, [.nilFunc]),
 (68, [.nilFunc]),
 (69, [.nilFunc]),
 (70, [.nilFunc]),
 (71, [.nilFunc]),
 (72, [.slice none 0 0]),
 (73, [.nilFunc]),
 (74, [.nilFunc]),
 (75, [.nilFunc]),
 (76, [.nilFunc]),
 (77, [.nilFunc]),
 (78, [.slice none 0 0]),
 (79, [.slice none 0 0, .slice none 0 0, .slice none 0 0, .slice none 0 0]),
 (80, [.slice none 0 0, .slice none 0 0, .slice none 0 0, .slice none 0 0]),
 (81, [.slice none 0 0]),
 (82, [.slice none 0 0]),
 (83, [.nilFunc]),
 (84, [.nilFunc]),
 (85, [.nilFunc]),
 (86, [.nilFunc]),
 (87, [.nilFunc]),
 (88, [.nilFunc]),
 (89, [.nilFunc]),
 (90, [.nilFunc]),
 (91, [.int .u64 0]),
 (92, [.nilFunc]),
 (93, [.nilFunc]),
 (94, [.nilFunc]),
 (95, [.nilFunc]),
 (96, [.slice none 0 0]),
 (97, [.nilFunc]),
 (98, [.nilFunc]),
 (99, [.nilFunc]),
 (100, [.nilFunc]),
 (101, [.nilFunc]),
 (102, [.nilFunc]),
 (103, [.nilFunc]),
 (104, [.nilFunc]),
 (105, [.nilFunc]),
 (106, [.int .u64 0]),
 (107, [.nilFunc]),
 (108, [.nilFunc]),
 (109, [.nilFunc]),
 (110, [.nilFunc]),
 (111, [.int .i64 0]),
 (113, [.nilFunc]),
 (114, [.nilFunc]),
 (115, [.nilFunc]),
 (117, [.nilFunc]),
 (118, [.nilFunc]),
 (119, [.int .u32 0]),
 (120, [.nilFunc]),
 (121, [.nilFunc]),
 (122, [.nilFunc]),
 (123, [.nilFunc]),
 (124, [.nilFunc]),
 (125, [.nilFunc]),
 (126, [.nilFunc]),
 (127, [.nilFunc]),
 (128, [.slice none 0 0]),
 (129, [.nilFunc]),
 (130, [.nilFunc]),
 (131, [.int .i64 0, .int .i64 0]),
 (132, [.int .i64 0, .int .i64 0]),
 (133, [.nilFunc]),
 (134, [.nilFunc]),
 (135, [.nilFunc]),
 (136, [.int .u64 0]),
 (137, [.nilFunc]),
 (138, [.nilFunc]),
 (139, [.nilFunc]),
 (140, [.pointer none]),
 (141, [.nilFunc]),
 (142, [.nilFunc]),
 (143, [.nilFunc]),
 (144, [.nilFunc]),
 (145, [.nilFunc]),
 (146, [.int .i64 0, .int .i64 0]),
 (147, [.int .i64 0, .int .i64 0]),
 (148, [.nilFunc]),
 (149, [.nilFunc]),
 (150, [.nilFunc]),
 (152, [.nilFunc]),
 (153, [.nilFunc]),
 (154, [.pointer none]),
 (156, [.nilFunc]),
 (157, [.nilFunc]),
 (158, [.nilFunc]),
 (159, [.nilFunc]),
 (161, [.nilFunc]),
 (162, [.nilFunc]),
 (163, [.nilFunc]),
 (165, [.nilFunc]),
 (167, [.nilFunc]),
 (168, [.nilFunc]),
 (169, [.nilFunc]),
 (175, [.nilFunc]),
 (178, [.nilFunc]),
 (179, [.pointer none])]
theorem tab_ok : tabB Tryz.prog tab = true := by kernel_rfl
set_option maxRecDepth 10000 in
theorem ztab_ok : ZOK Tryz.prog ztab := ⟨by kernel_rfl, by kernel_rfl, by kernel_rfl, by kernel_rfl, by kernel_rfl, by kernel_rfl, by kernel_rfl, by kernel_rfl, by kernel_rfl, by kernel_rfl, by kernel_rfl, by kernel_rfl, by kernel_rfl, by kernel_rfl, by kernel_rfl, by kernel_rfl, by kernel_rfl, by kernel_rfl, by kernel_rfl, by kernel_rfl, by kernel_rfl, by kernel_rfl, by kernel_rfl, by kernel_rfl, by kernel_rfl, by kernel_rfl, by kernel_rfl, by kernel_rfl, by kernel_rfl, by kernel_rfl, by kernel_rfl, by kernel_rfl, by kernel_rfl, by kernel_rfl, by kernel_rfl, by kernel_rfl, by kernel_rfl, by kernel_rfl, by kernel_rfl, by kernel_rfl, by kernel_rfl, by kernel_rfl, by kernel_rfl, by kernel_rfl, by kernel_rfl, by kernel_rfl, by kernel_rfl, by kernel_rfl, by kernel_rfl, by kernel_rfl, by kernel_rfl, by kernel_rfl, by kernel_rfl, by kernel_rfl, by kernel_rfl, by kernel_rfl, by kernel_rfl, by kernel_rfl, by kernel_rfl, by kernel_rfl, by kernel_rfl, by kernel_rfl, by kernel_rfl, by kernel_rfl, by kernel_rfl, by kernel_rfl, by kernel_rfl, by kernel_rfl, by kernel_rfl, by kernel_rfl, by kernel_rfl, by kernel_rfl, by kernel_rfl, by kernel_rfl, by kernel_rfl, by kernel_rfl, by kernel_rfl, by kernel_rfl, by kernel_rfl, by kernel_rfl, by kernel_rfl, by kernel_rfl, by kernel_rfl, by kernel_rfl, by kernel_rfl, by kernel_rfl, by kernel_rfl, by kernel_rfl, by kernel_rfl, by kernel_rfl, by kernel_rfl, by kernel_rfl, by kernel_rfl, by kernel_rfl, by kernel_rfl, by kernel_rfl, by kernel_rfl, by kernel_rfl, by kernel_rfl, by kernel_rfl, by kernel_rfl, by kernel_rfl, by kernel_rfl, by kernel_rfl, by kernel_rfl, by kernel_rfl, by kernel_rfl, by kernel_rfl, by kernel_rfl, by kernel_rfl, by kernel_rfl, by kernel_rfl, by kernel_rfl, by kernel_rfl, by kernel_rfl, by kernel_rfl, by kernel_rfl, by kernel_rfl, by kernel_rfl, by kernel_rfl, by kernel_rfl, by kernel_rfl, by kernel_rfl, by kernel_rfl, by kernel_rfl, by kernel_rfl, by kernel_rfl, by kernel_rfl, by kernel_rfl, by kernel_rfl, by kernel_rfl, by kernel_rfl, by kernel_rfl, by kernel_rfl, by kernel_rfl, by kernel_rfl, by kernel_rfl, by kernel_rfl, by kernel_rfl, by kernel_rfl, by kernel_rfl, by kernel_rfl, by kernel_rfl, by kernel_rfl, by kernel_rfl, by kernel_rfl, by kernel_rfl, by kernel_rfl, by kernel_rfl, zt⟩
noncomputable def B : Tabs := ⟨Tryz.prog, tab, ztab, tab_ok, ztab_ok⟩
theorem mixed : B.P.follows .mixedOrders = true := by kernel_rfl
theorem own : ownKnob Tryz.prog.godebug = none := by kernel_rfl
theorem laidOut : laidOutB Tryz.prog = true := by kernel_rfl
def In64 (n : Int) : Prop := -9223372036854775808 ≤ n ∧ n ≤ 9223372036854775807
def SI (avs : List AV) : Prop := ∃ n : Int, avs = [.i64 n] ∧ In64 n
def SL {α : Type} [Inhabited α] (by_ sz : Nat) (enc : α → List AV) (p : α → Prop) (avs : List AV) : Prop := ∃ l : List α, avs = [roL sz enc l] ∧ LOk by_ p l
def SB (avs : List AV) : Prop := ∃ b : Bool, avs = [.bool b]
theorem o_int : OpensC Tryz.prog 3 SI := opens_int Tryz.underlying3
theorem o_bool : OpensC Tryz.prog 4 SB := opens_bool Tryz.underlying4
theorem o_ints : OpensC Tryz.prog 22 (SL 8 1 intC In64) :=
 opens_slice (sz := 1) Tryz.underlying22 (by kernel_rfl) (by decide) (fun _ => rfl) (by kernel_rfl) (o_int.mono fun avs ⟨n, h, hw⟩ => ⟨n, h, hw⟩)
def Opd.ok (o : Opd) : Prop := In64 o.Kind ∧ In64 o.Value ∧ In64 o.Limit ∧ In64 o.N
theorem o_opd : OpensC Tryz.prog 49 fun avs => ∃ o : Opd, avs = o.cells ∧ Opd.ok o :=
 (opens_fields Tryz.underlying49 (Ss := [SI, SI, SB, SI, SI]) (by kernel_rfl) ⟨o_int, o_int, o_bool, o_int, o_int, zt⟩).mono (by
  rintro avs ⟨_, _, ⟨a, rfl, wa⟩, ⟨_, _, ⟨b, rfl, wb⟩, ⟨_, _, ⟨c, rfl⟩, ⟨_, _, ⟨d, rfl, wd⟩, ⟨_, _, ⟨e, rfl, we⟩, rfl, rfl⟩, rfl⟩, rfl⟩, rfl⟩, rfl⟩
  exact ⟨⟨a, b, c, d, e⟩, rfl, wa, wb, wd, we⟩)
def Rg.ok (r : Rg) : Prop := In64 r.Class ∧ In64 r.N
theorem o_rg : OpensC Tryz.prog 147 fun avs => ∃ o : Rg, avs = o.cells ∧ Rg.ok o :=
 (opens_fields Tryz.underlying147 (Ss := [SI, SI]) (by kernel_rfl) ⟨o_int, o_int, zt⟩).mono (by
  rintro avs ⟨_, _, ⟨a, rfl, wa⟩, ⟨_, _, ⟨b, rfl, wb⟩, rfl, rfl⟩, rfl⟩
  exact ⟨⟨a, b⟩, rfl, wa, wb⟩)
def Ins.ok (x : Ins) : Prop := In64 x.Op ∧ LOk 40 Opd.ok x.Operands ∧ LOk 16 Rg.ok x.Spoils
theorem o_opds : OpensC Tryz.prog 44 (SL 40 5 Opd.cells Opd.ok) :=
 opens_slice (sz := 5) Tryz.underlying44 (by kernel_rfl) (by decide) (fun _ => rfl) (by kernel_rfl) o_opd
theorem o_rgs : OpensC Tryz.prog 45 (SL 16 2 Rg.cells Rg.ok) :=
 opens_slice (sz := 2) Tryz.underlying45 (by kernel_rfl) (by decide) (fun _ => rfl) (by kernel_rfl) o_rg
theorem o_ins : OpensC Tryz.prog 47 fun avs => ∃ o : Ins, avs = o.cells ∧ Ins.ok o :=
 (opens_fields Tryz.underlying47 (Ss := [SI, SL 40 5 Opd.cells Opd.ok, SL 16 2 Rg.cells Rg.ok]) (by kernel_rfl) ⟨o_int, o_opds, o_rgs, zt⟩).mono (by
  rintro avs ⟨_, _, ⟨a, rfl, wa⟩, ⟨_, _, ⟨b, rfl, wb⟩, ⟨_, _, ⟨c, rfl, wc⟩, rfl, rfl⟩, rfl⟩, rfl⟩
  exact ⟨⟨a, b, c⟩, rfl, wa, wb, wc⟩)
def Edg.ok (x : Edg) : Prop := In64 x.Block ∧ LOk 8 In64 x.Args
theorem o_edg : OpensC Tryz.prog 52 fun avs => ∃ o : Edg, avs = o.cells ∧ Edg.ok o :=
 (opens_fields Tryz.underlying52 (Ss := [SI, SL 8 1 intC In64]) (by kernel_rfl) ⟨o_int, o_ints, zt⟩).mono (by
  rintro avs ⟨_, _, ⟨a, rfl, wa⟩, ⟨_, _, ⟨b, rfl, wb⟩, rfl, rfl⟩, rfl⟩
  exact ⟨⟨a, b⟩, rfl, wa, wb⟩)
def Blk.ok (x : Blk) : Prop := LOk 8 In64 x.Params ∧ LOk 56 Ins.ok x.Instrs ∧ LOk 32 Edg.ok x.Edges
theorem o_inss : OpensC Tryz.prog 40 (SL 56 3 Ins.cells Ins.ok) :=
 opens_slice (sz := 3) Tryz.underlying40 (by kernel_rfl) (by decide) (fun _ => rfl) (by kernel_rfl) o_ins
theorem o_edgs : OpensC Tryz.prog 41 (SL 32 2 Edg.cells Edg.ok) :=
 opens_slice (sz := 2) Tryz.underlying41 (by kernel_rfl) (by decide) (fun _ => rfl) (by kernel_rfl) o_edg
theorem o_blk : OpensC Tryz.prog 43 fun avs => ∃ o : Blk, avs = o.cells ∧ Blk.ok o :=
 (opens_fields Tryz.underlying43 (Ss := [SL 8 1 intC In64, SL 56 3 Ins.cells Ins.ok, SL 32 2 Edg.cells Edg.ok]) (by kernel_rfl) ⟨o_ints, o_inss, o_edgs, zt⟩).mono (by
  rintro avs ⟨_, _, ⟨a, rfl, wa⟩, ⟨_, _, ⟨b, rfl, wb⟩, ⟨_, _, ⟨c, rfl, wc⟩, rfl, rfl⟩, rfl⟩, rfl⟩
  exact ⟨⟨a, b, c⟩, rfl, wa, wb, wc⟩)
def Fun.ok (x : Fun) : Prop := LOk 8 In64 x.Values ∧ LOk 72 Blk.ok x.Blocks
theorem o_blks : OpensC Tryz.prog 23 (SL 72 3 Blk.cells Blk.ok) :=
 opens_slice (sz := 3) Tryz.underlying23 (by kernel_rfl) (by decide) (fun _ => rfl) (by kernel_rfl) o_blk
theorem o_fun : OpensC Tryz.prog 25 fun avs => ∃ o : Fun, avs = o.cells ∧ Fun.ok o :=
 (opens_fields Tryz.underlying25 (Ss := [SL 8 1 intC In64, SL 72 3 Blk.cells Blk.ok]) (by kernel_rfl) ⟨o_ints, o_blks, zt⟩).mono (by
  rintro avs ⟨_, _, ⟨a, rfl, wa⟩, ⟨_, _, ⟨b, rfl, wb⟩, rfl, rfl⟩, rfl⟩
  exact ⟨⟨a, b⟩, rfl, wa, wb⟩)
def Mch.ok (m : Mch) : Prop := In64 m.r0 ∧ In64 m.r1
theorem o_regs : OpensC Tryz.prog 26 (SCat [SI, SI]) := opens_array2 Tryz.underlying26 (by kernel_rfl) (by kernel_rfl) o_int
theorem o_mch : OpensC Tryz.prog 28 fun avs => ∃ m : Mch, avs = m.cells ∧ Mch.ok m :=
 (opens_fields Tryz.underlying28 (Ss := [SCat [SI, SI]]) (by kernel_rfl) ⟨o_regs, zt⟩).mono (by
  rintro avs ⟨_, _, ⟨_, _, ⟨a, rfl, wa⟩, ⟨_, _, ⟨b, rfl, wb⟩, rfl, rfl⟩, rfl⟩, rfl, rfl⟩
  exact ⟨⟨a, b⟩, rfl, wa, wb⟩)
theorem law_calls {f : FuncId} {avs : List AV} (h : ACallIs Tryz.prog f avs (.bool true)) (w : World) (vs : List Value) (hl : vs.length = avs.length)
  (hr : ∀ (j : Nat) (x : AV), avs[j]? = some x → Rep (fun k => k < w.heap.size) w (fun _ => none) x (vs.getD j undef)) : Calls Tryz.prog f vs.toArray w fun e w' => e = .returned (.bool true) ∧ Below w.heap.size w w' :=
 (h.out _ w vs (fun _ h => h) hl hr).mono fun e w' ⟨v, F', he, hb, _, _, _, hv⟩ => by
  cases hv; exact ⟨he, hb⟩
end Go.Proofs.YtjjgjflbhpoloaaGreat

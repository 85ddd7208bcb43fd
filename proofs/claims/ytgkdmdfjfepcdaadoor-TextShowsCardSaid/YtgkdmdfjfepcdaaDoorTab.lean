/- The seat's own tables of types; how arguments of each type are opened. No condition. -/
import Derived.Test.YtgkdmdfjfepcdaaDoorData
import Derived.Test.YtgkdmdfjfepcdaaDoorChecked
import Derived.KernelRfl
set_option linter.unusedVariables false
set_option linter.unusedSimpArgs false
namespace Go.Proofs.YtgkdmdfjfepcdaaDoor
open Go Go.Abs Go.RowKit

def tab : List (Nat × TI) := [(1, .scalar),
  (2, .int .i64),
  (3, .int .i64),
  (4, .bool),
  (5, .int .u8),
  (9, .str),
  (12, .int .u64),
  (13, .struct 2 [(0, 1), (1, 1)]),
  (21, .int .i32),
  (22, .array 2 1 true),
  (1000022, .leaves 22 [.int, .int]),
  (23, .struct 2 [(0, 2)]),
  (1000023, .leaves 23 [.int, .int]),
  (24, .struct 2 [(0, 2)]),
  (1000024, .leaves 24 [.int, .int]),
  (25, .slice 3 1 8),
  (26, .slice 50 3 72),
  (27, .struct 2 [(0, 1), (1, 1)]),
  (28, .struct 2 [(0, 1), (1, 1)]),
  (29, .struct 7 [(0, 2), (2, 2), (4, 1), (5, 1), (6, 1)]),
  (30, .struct 7 [(0, 2), (2, 2), (4, 1), (5, 1), (6, 1)]),
  (31, .int .i64),
  (33, .scalar),
  (34, .scalar),
  (35, .scalar),
  (36, .scalar),
  (37, .slice 5 1 1),
  (38, .struct 2 [(0, 1), (1, 1)]),
  (39, .struct 2 [(0, 1), (1, 1)]),
  (43, .scalar),
  (44, .scalar),
  (45, .scalar),
  (46, .scalar),
  (47, .slice 54 3 56),
  (48, .slice 57 2 32),
  (49, .struct 3 [(0, 1), (1, 1), (2, 1)]),
  (50, .struct 3 [(0, 1), (1, 1), (2, 1)]),
  (51, .slice 63 5 40),
  (52, .slice 66 2 16),
  (53, .struct 3 [(0, 1), (1, 1), (2, 1)]),
  (54, .struct 3 [(0, 1), (1, 1), (2, 1)]),
  (55, .scalar),
  (56, .struct 2 [(0, 1), (1, 1)]),
  (57, .struct 2 [(0, 1), (1, 1)]),
  (58, .scalar),
  (59, .scalar),
  (60, .scalar),
  (61, .scalar),
  (62, .struct 5 [(0, 1), (1, 1), (2, 1), (3, 1), (4, 1)]),
  (1000062, .leaves 62 [.int, .int, .bool, .int, .int]),
  (63, .struct 5 [(0, 1), (1, 1), (2, 1), (3, 1), (4, 1)]),
  (1000063, .leaves 63 [.int, .int, .bool, .int, .int]),
  (64, .scalar),
  (65, .struct 2 [(0, 1), (1, 1)]),
  (1000065, .leaves 65 [.int, .int]),
  (66, .struct 2 [(0, 1), (1, 1)]),
  (1000066, .leaves 66 [.int, .int]),
  (67, .scalar),
  (68, .scalar),
  (69, .slice 9 1 16),
  (70, .scalar),
  (71, .scalar),
  (72, .slice 25 1 24),
  (73, .scalar),
  (74, .scalar),
  (75, .scalar),
  (77, .scalar),
  (78, .scalar),
  (79, .array 3 1 true),
  (80, .array 6 1 true),
  (81, .slice 4 1 1),
  (82, .scalar),
  (83, .scalar),
  (84, .scalar),
  (85, .scalar),
  (86, .scalar),
  (87, .scalar),
  (88, .scalar),
  (89, .scalar),
  (90, .scalar),
  (91, .slice 95 2 16),
  (92, .scalar),
  (93, .scalar),
  (94, .struct 2 [(0, 1), (1, 1)]),
  (1000094, .leaves 94 [.int, .int]),
  (95, .struct 2 [(0, 1), (1, 1)]),
  (1000095, .leaves 95 [.int, .int]),
  (96, .scalar),
  (97, .scalar),
  (98, .array 24 1 true),
  (1000098, .leaves 98 [.int, .int, .int, .int, .int, .int, .int, .int, .int, .int, .int, .int, .int, .int, .int, .int, .int, .int, .int, .int, .int, .int, .int, .int]),
  (99, .int .u64),
  (100, .scalar),
  (101, .scalar),
  (103, .scalar),
  (104, .scalar),
  (105, .scalar),
  (106, .scalar),
  (107, .scalar),
  (108, .scalar),
  (109, .scalar),
  (110, .scalar),
  (111, .scalar),
  (112, .scalar),
  (113, .scalar),
  (114, .scalar),
  (115, .int .u64),
  (117, .scalar),
  (118, .scalar),
  (119, .scalar),
  (120, .array 20 1 true),
  (1000120, .leaves 120 [.int, .int, .int, .int, .int, .int, .int, .int, .int, .int, .int, .int, .int, .int, .int, .int, .int, .int, .int, .int]),
  (121, .int .u32),
  (122, .array 65 1 true),
  (1000122, .leaves 122 [.int, .int, .int, .int, .int, .int, .int, .int, .int, .int, .int, .int, .int, .int, .int, .int, .int, .int, .int, .int, .int, .int, .int, .int, .int, .int, .int, .int, .int, .int, .int, .int, .int, .int, .int, .int, .int, .int, .int, .int, .int, .int, .int, .int, .int, .int, .int, .int, .int, .int, .int, .int, .int, .int, .int, .int, .int, .int, .int, .int, .int, .int, .int, .int, .int]),
  (123, .scalar),
  (124, .scalar),
  (126, .scalar),
  (127, .scalar),
  (128, .scalar),
  (129, .scalar),
  (131, .scalar),
  (133, .scalar),
  (134, .scalar),
  (135, .scalar),
  (136, .scalar),
  (137, .scalar),
  (138, .array 32 1 true),
  (1000138, .leaves 138 [.int, .int, .int, .int, .int, .int, .int, .int, .int, .int, .int, .int, .int, .int, .int, .int, .int, .int, .int, .int, .int, .int, .int, .int, .int, .int, .int, .int, .int, .int, .int, .int]),
  (139, .array 64 1 true),
  (1000139, .leaves 139 [.int, .int, .int, .int, .int, .int, .int, .int, .int, .int, .int, .int, .int, .int, .int, .int, .int, .int, .int, .int, .int, .int, .int, .int, .int, .int, .int, .int, .int, .int, .int, .int, .int, .int, .int, .int, .int, .int, .int, .int, .int, .int, .int, .int, .int, .int, .int, .int, .int, .int, .int, .int, .int, .int, .int, .int, .int, .int, .int, .int, .int, .int, .int, .int]),
  (145, .scalar),
  (148, .scalar)]
def ztab : List (Nat × List Value) := [(1, [.nilFunc]),
  (2, [.int .i64 0]),
  (3, [.int .i64 0]),
  (4, [.bool false]),
  (5, [.int .u8 0]),
  (9, [.string ByteArray.empty]),
  (12, [.int .u64 0]),
  (13, [.string ByteArray.empty, .int .u64 0]),
  (21, [.int .i32 0]),
  (22, [.int .i64 0, .int .i64 0]),
  (23, [.int .i64 0, .int .i64 0]),
  (24, [.int .i64 0, .int .i64 0]),
  (25, [.slice none 0 0]),
  (26, [.slice none 0 0]),
  (27, [.slice none 0 0, .slice none 0 0]),
  (28, [.slice none 0 0, .slice none 0 0]),
  (29, [.int .i64 0, .int .i64 0, .slice none 0 0, .slice none 0 0, .int .i64 0, .int .i64 0, .slice none 0 0]),
  (30, [.int .i64 0, .int .i64 0, .slice none 0 0, .slice none 0 0, .int .i64 0, .int .i64 0, .slice none 0 0]),
  (31, [.int .i64 0]),
  (33, [.nilFunc]),
  (34, [.nilFunc]),
  (35, [.nilFunc]),
  (36, [.pointer none]),
  (37, [.slice none 0 0]),
  (38, [.pointer none, .slice none 0 0]),
  (43, [.nilFunc]),
  (44, [.nilFunc]),
  (45, [.nilFunc]),
  (46, [.nilFunc]),
  (47, [.slice none 0 0]),
  (48, [.slice none 0 0]),
  (49, [.slice none 0 0, .slice none 0 0, .slice none 0 0]),
  (50, [.slice none 0 0, .slice none 0 0, .slice none 0 0]),
  (51, [.slice none 0 0]),
  (52, [.slice none 0 0]),
  (53, [.int .i64 0, .slice none 0 0, .slice none 0 0]),
  (54, [.int .i64 0, .slice none 0 0, .slice none 0 0]),
  (55, [.nilFunc]),
  (56, [.int .i64 0, .slice none 0 0]),
  (57, [.int .i64 0, .slice none 0 0]),
  (58, [.nilFunc]),
  (59, [.nilFunc]),
  (60, [.nilFunc]),
  (61, [.nilFunc]),
  (62, [.int .i64 0, .int .i64 0, .bool false, .int .i64 0, .int .i64 0]),
  (63, [.int .i64 0, .int .i64 0, .bool false, .int .i64 0, .int .i64 0]),
  (64, [.nilFunc]),
  (65, [.int .i64 0, .int .i64 0]),
  (66, [.int .i64 0, .int .i64 0]),
  (67, [.pointer none]),
  (68, [.nilFunc]),
  (69, [.slice none 0 0]),
  (70, [.nilFunc]),
  (71, [.nilFunc]),
  (72, [.slice none 0 0]),
  (73, [.nilFunc]),
  (74, [.nilFunc]),
  (75, [.nilFunc]),
  (77, [.nilFunc]),
  (78, [.nilFunc]),
  (79, [.string ByteArray.empty, .string ByteArray.empty, .string ByteArray.empty]),
  (80, [.string ByteArray.empty, .string ByteArray.empty, .string ByteArray.empty, .string ByteArray.empty, .string ByteArray.empty, .string ByteArray.empty]),
  (81, [.slice none 0 0]),
  (82, [.nilFunc]),
  (83, [.nilFunc]),
  (84, [.nilFunc]),
  (85, [.nilFunc]),
  (86, [.nilFunc]),
  (87, [.nilFunc]),
  (88, [.nilFunc]),
  (89, [.nilFunc]),
  (90, [.nilFunc]),
  (91, [.slice none 0 0]),
  (92, [.nilFunc]),
  (93, [.nilFunc]),
  (94, [.int .i64 0, .int .i64 0]),
  (95, [.int .i64 0, .int .i64 0]),
  (96, [.nilFunc]),
  (97, [.nilFunc]),
  (98, [.int .u8 0, .int .u8 0, .int .u8 0, .int .u8 0, .int .u8 0, .int .u8 0, .int .u8 0, .int .u8 0, .int .u8 0, .int .u8 0, .int .u8 0, .int .u8 0, .int .u8 0, .int .u8 0, .int .u8 0, .int .u8 0, .int .u8 0, .int .u8 0, .int .u8 0, .int .u8 0, .int .u8 0, .int .u8 0, .int .u8 0, .int .u8 0]),
  (99, [.int .u64 0]),
  (100, [.nilFunc]),
  (101, [.nilFunc]),
  (103, [.nilFunc]),
  (104, [.nilFunc]),
  (105, [.nilFunc]),
  (106, [.nilFunc]),
  (107, [.nilFunc]),
  (108, [.nilFunc]),
  (109, [.nilFunc]),
  (110, [.nilFunc]),
  (111, [.nilFunc]),
  (112, [.nilFunc]),
  (113, [.nilFunc]),
  (114, [.nilFunc]),
  (115, [.int .u64 0]),
  (117, [.nilFunc]),
  (118, [.nilFunc]),
  (119, [.nilFunc]),
  (120, [.int .u64 0, .int .u64 0, .int .u64 0, .int .u64 0, .int .u64 0, .int .u64 0, .int .u64 0, .int .u64 0, .int .u64 0, .int .u64 0, .int .u64 0, .int .u64 0, .int .u64 0, .int .u64 0, .int .u64 0, .int .u64 0, .int .u64 0, .int .u64 0, .int .u64 0, .int .u64 0]),
  (121, [.int .u32 0]),
  (122, [.int .u8 0, .int .u8 0, .int .u8 0, .int .u8 0, .int .u8 0, .int .u8 0, .int .u8 0, .int .u8 0, .int .u8 0, .int .u8 0, .int .u8 0, .int .u8 0, .int .u8 0, .int .u8 0, .int .u8 0, .int .u8 0, .int .u8 0, .int .u8 0, .int .u8 0, .int .u8 0, .int .u8 0, .int .u8 0, .int .u8 0, .int .u8 0, .int .u8 0, .int .u8 0, .int .u8 0, .int .u8 0, .int .u8 0, .int .u8 0, .int .u8 0, .int .u8 0, .int .u8 0, .int .u8 0, .int .u8 0, .int .u8 0, .int .u8 0, .int .u8 0, .int .u8 0, .int .u8 0, .int .u8 0, .int .u8 0, .int .u8 0, .int .u8 0, .int .u8 0, .int .u8 0, .int .u8 0, .int .u8 0, .int .u8 0, .int .u8 0, .int .u8 0, .int .u8 0, .int .u8 0, .int .u8 0, .int .u8 0, .int .u8 0, .int .u8 0, .int .u8 0, .int .u8 0, .int .u8 0, .int .u8 0, .int .u8 0, .int .u8 0, .int .u8 0, .int .u8 0]),
  (123, [.nilFunc]),
  (124, [.nilFunc]),
  (126, [.nilFunc]),
  (127, [.nilFunc]),
  (128, [.nilFunc]),
  (129, [.nilFunc]),
  (131, [.nilFunc]),
  (133, [.nilFunc]),
  (134, [.nilFunc]),
  (135, [.nilFunc]),
  (136, [.nilFunc]),
  (137, [.nilFunc]),
  (138, [.int .u8 0, .int .u8 0, .int .u8 0, .int .u8 0, .int .u8 0, .int .u8 0, .int .u8 0, .int .u8 0, .int .u8 0, .int .u8 0, .int .u8 0, .int .u8 0, .int .u8 0, .int .u8 0, .int .u8 0, .int .u8 0, .int .u8 0, .int .u8 0, .int .u8 0, .int .u8 0, .int .u8 0, .int .u8 0, .int .u8 0, .int .u8 0, .int .u8 0, .int .u8 0, .int .u8 0, .int .u8 0, .int .u8 0, .int .u8 0, .int .u8 0, .int .u8 0]),
  (139, [.int .u8 0, .int .u8 0, .int .u8 0, .int .u8 0, .int .u8 0, .int .u8 0, .int .u8 0, .int .u8 0, .int .u8 0, .int .u8 0, .int .u8 0, .int .u8 0, .int .u8 0, .int .u8 0, .int .u8 0, .int .u8 0, .int .u8 0, .int .u8 0, .int .u8 0, .int .u8 0, .int .u8 0, .int .u8 0, .int .u8 0, .int .u8 0, .int .u8 0, .int .u8 0, .int .u8 0, .int .u8 0, .int .u8 0, .int .u8 0, .int .u8 0, .int .u8 0, .int .u8 0, .int .u8 0, .int .u8 0, .int .u8 0, .int .u8 0, .int .u8 0, .int .u8 0, .int .u8 0, .int .u8 0, .int .u8 0, .int .u8 0, .int .u8 0, .int .u8 0, .int .u8 0, .int .u8 0, .int .u8 0, .int .u8 0, .int .u8 0, .int .u8 0, .int .u8 0, .int .u8 0, .int .u8 0, .int .u8 0, .int .u8 0, .int .u8 0, .int .u8 0, .int .u8 0, .int .u8 0, .int .u8 0, .int .u8 0, .int .u8 0, .int .u8 0]),
  (145, [.nilFunc]),
  (148, [.nilFunc])]
theorem tab_ok : tabB Tryd.prog tab = true := by kernel_rfl
set_option maxRecDepth 10000 in
theorem ztab_ok : ZOK Tryd.prog ztab := ⟨by kernel_rfl, by kernel_rfl, by kernel_rfl, by kernel_rfl, by kernel_rfl, by kernel_rfl, by kernel_rfl, by kernel_rfl, by kernel_rfl, by kernel_rfl, by kernel_rfl, by kernel_rfl, by kernel_rfl, by kernel_rfl, by kernel_rfl, by kernel_rfl, by kernel_rfl, by kernel_rfl, by kernel_rfl, by kernel_rfl, by kernel_rfl, by kernel_rfl, by kernel_rfl, by kernel_rfl, by kernel_rfl, by kernel_rfl, by kernel_rfl, by kernel_rfl, by kernel_rfl, by kernel_rfl, by kernel_rfl, by kernel_rfl, by kernel_rfl, by kernel_rfl, by kernel_rfl, by kernel_rfl, by kernel_rfl, by kernel_rfl, by kernel_rfl, by kernel_rfl, by kernel_rfl, by kernel_rfl, by kernel_rfl, by kernel_rfl, by kernel_rfl, by kernel_rfl, by kernel_rfl, by kernel_rfl, by kernel_rfl, by kernel_rfl, by kernel_rfl, by kernel_rfl, by kernel_rfl, by kernel_rfl, by kernel_rfl, by kernel_rfl, by kernel_rfl, by kernel_rfl, by kernel_rfl, by kernel_rfl, by kernel_rfl, by kernel_rfl, by kernel_rfl, by kernel_rfl, by kernel_rfl, by kernel_rfl, by kernel_rfl, by kernel_rfl, by kernel_rfl, by kernel_rfl, by kernel_rfl, by kernel_rfl, by kernel_rfl, by kernel_rfl, by kernel_rfl, by kernel_rfl, by kernel_rfl, by kernel_rfl, by kernel_rfl, by kernel_rfl, by kernel_rfl, by kernel_rfl, by kernel_rfl, by kernel_rfl, by kernel_rfl, by kernel_rfl, by kernel_rfl, by kernel_rfl, by kernel_rfl, by kernel_rfl, by kernel_rfl, by kernel_rfl, by kernel_rfl, by kernel_rfl, by kernel_rfl, by kernel_rfl, by kernel_rfl, by kernel_rfl, by kernel_rfl, by kernel_rfl, by kernel_rfl, by kernel_rfl, by kernel_rfl, by kernel_rfl, by kernel_rfl, by kernel_rfl, by kernel_rfl, by kernel_rfl, by kernel_rfl, by kernel_rfl, by kernel_rfl, by kernel_rfl, by kernel_rfl, by kernel_rfl, by kernel_rfl, by kernel_rfl, by kernel_rfl, by kernel_rfl, trivial⟩
noncomputable def B : Tabs := ⟨Tryd.prog, tab, ztab, tab_ok, ztab_ok⟩
theorem mixed : B.P.follows .mixedOrders = true := by kernel_rfl
theorem own : ownKnob Tryd.prog.godebug = none := by kernel_rfl
theorem laidOut : laidOutB Tryd.prog = true := by kernel_rfl

def In64 (n : Int) : Prop := -9223372036854775808 ≤ n ∧ n ≤ 9223372036854775807
def SI (avs : List AV) : Prop := ∃ n : Int, avs = [.i64 n] ∧ In64 n
def SL {α : Type} [Inhabited α] (by_ sz : Nat) (enc : α → List AV) (p : α → Prop) (avs : List AV) : Prop := ∃ l : List α, avs = [roL sz enc l] ∧ LOk by_ p l
def SB (avs : List AV) : Prop := ∃ b : Bool, avs = [.bool b]
theorem o_int : OpensC Tryd.prog 3 SI := opens_int Tryd.underlying3
theorem o_bool : OpensC Tryd.prog 4 SB := opens_bool Tryd.underlying4
theorem o_ints : OpensC Tryd.prog 25 (SL 8 1 intC In64) :=
  opens_slice (sz := 1) Tryd.underlying25 (by kernel_rfl) (by decide) (fun _ => rfl) (by kernel_rfl) (o_int.mono fun avs ⟨n, h, hw⟩ => ⟨n, h, hw⟩)
def Opd.ok (o : Opd) : Prop := In64 o.Kind ∧ In64 o.Value ∧ In64 o.Limit ∧ In64 o.N
theorem o_opd : OpensC Tryd.prog 63 fun avs => ∃ o : Opd, avs = o.cells ∧ Opd.ok o :=
  (opens_fields Tryd.underlying63 (Ss := [SI, SI, SB, SI, SI]) (by kernel_rfl) ⟨o_int, o_int, o_bool, o_int, o_int, trivial⟩).mono (by
    rintro avs ⟨_, _, ⟨a, rfl, wa⟩, ⟨_, _, ⟨b, rfl, wb⟩, ⟨_, _, ⟨c, rfl⟩, ⟨_, _, ⟨d, rfl, wd⟩, ⟨_, _, ⟨e, rfl, we⟩, rfl, rfl⟩, rfl⟩, rfl⟩, rfl⟩, rfl⟩
    exact ⟨⟨a, b, c, d, e⟩, rfl, wa, wb, wd, we⟩)
def Rg.ok (r : Rg) : Prop := In64 r.Class ∧ In64 r.N
theorem o_rg : OpensC Tryd.prog 66 fun avs => ∃ o : Rg, avs = o.cells ∧ Rg.ok o :=
  (opens_fields Tryd.underlying66 (Ss := [SI, SI]) (by kernel_rfl) ⟨o_int, o_int, trivial⟩).mono (by
    rintro avs ⟨_, _, ⟨a, rfl, wa⟩, ⟨_, _, ⟨b, rfl, wb⟩, rfl, rfl⟩, rfl⟩
    exact ⟨⟨a, b⟩, rfl, wa, wb⟩)
def Ins.ok (x : Ins) : Prop := In64 x.Op ∧ LOk 40 Opd.ok x.Operands ∧ LOk 16 Rg.ok x.Spoils
theorem o_opds : OpensC Tryd.prog 51 (SL 40 5 Opd.cells Opd.ok) :=
  opens_slice (sz := 5) Tryd.underlying51 (by kernel_rfl) (by decide) (fun _ => rfl) (by kernel_rfl) o_opd
theorem o_rgs : OpensC Tryd.prog 52 (SL 16 2 Rg.cells Rg.ok) :=
  opens_slice (sz := 2) Tryd.underlying52 (by kernel_rfl) (by decide) (fun _ => rfl) (by kernel_rfl) o_rg
theorem o_ins : OpensC Tryd.prog 54 fun avs => ∃ o : Ins, avs = o.cells ∧ Ins.ok o :=
  (opens_fields Tryd.underlying54 (Ss := [SI, SL 40 5 Opd.cells Opd.ok, SL 16 2 Rg.cells Rg.ok]) (by kernel_rfl) ⟨o_int, o_opds, o_rgs, trivial⟩).mono (by
    rintro avs ⟨_, _, ⟨a, rfl, wa⟩, ⟨_, _, ⟨b, rfl, wb⟩, ⟨_, _, ⟨c, rfl, wc⟩, rfl, rfl⟩, rfl⟩, rfl⟩
    exact ⟨⟨a, b, c⟩, rfl, wa, wb, wc⟩)
def Edg.ok (x : Edg) : Prop := In64 x.Block ∧ LOk 8 In64 x.Args
theorem o_edg : OpensC Tryd.prog 57 fun avs => ∃ o : Edg, avs = o.cells ∧ Edg.ok o :=
  (opens_fields Tryd.underlying57 (Ss := [SI, SL 8 1 intC In64]) (by kernel_rfl) ⟨o_int, o_ints, trivial⟩).mono (by
    rintro avs ⟨_, _, ⟨a, rfl, wa⟩, ⟨_, _, ⟨b, rfl, wb⟩, rfl, rfl⟩, rfl⟩
    exact ⟨⟨a, b⟩, rfl, wa, wb⟩)
def Blk.ok (x : Blk) : Prop := LOk 8 In64 x.Params ∧ LOk 56 Ins.ok x.Instrs ∧ LOk 32 Edg.ok x.Edges
theorem o_inss : OpensC Tryd.prog 47 (SL 56 3 Ins.cells Ins.ok) :=
  opens_slice (sz := 3) Tryd.underlying47 (by kernel_rfl) (by decide) (fun _ => rfl) (by kernel_rfl) o_ins
theorem o_edgs : OpensC Tryd.prog 48 (SL 32 2 Edg.cells Edg.ok) :=
  opens_slice (sz := 2) Tryd.underlying48 (by kernel_rfl) (by decide) (fun _ => rfl) (by kernel_rfl) o_edg
theorem o_blk : OpensC Tryd.prog 50 fun avs => ∃ o : Blk, avs = o.cells ∧ Blk.ok o :=
  (opens_fields Tryd.underlying50 (Ss := [SL 8 1 intC In64, SL 56 3 Ins.cells Ins.ok, SL 32 2 Edg.cells Edg.ok]) (by kernel_rfl) ⟨o_ints, o_inss, o_edgs, trivial⟩).mono (by
    rintro avs ⟨_, _, ⟨a, rfl, wa⟩, ⟨_, _, ⟨b, rfl, wb⟩, ⟨_, _, ⟨c, rfl, wc⟩, rfl, rfl⟩, rfl⟩, rfl⟩
    exact ⟨⟨a, b, c⟩, rfl, wa, wb, wc⟩)
def Fun.ok (x : Fun) : Prop := LOk 8 In64 x.Values ∧ LOk 72 Blk.ok x.Blocks
theorem o_blks : OpensC Tryd.prog 26 (SL 72 3 Blk.cells Blk.ok) :=
  opens_slice (sz := 3) Tryd.underlying26 (by kernel_rfl) (by decide) (fun _ => rfl) (by kernel_rfl) o_blk
theorem o_fun : OpensC Tryd.prog 28 fun avs => ∃ o : Fun, avs = o.cells ∧ Fun.ok o :=
  (opens_fields Tryd.underlying28 (Ss := [SL 8 1 intC In64, SL 72 3 Blk.cells Blk.ok]) (by kernel_rfl) ⟨o_ints, o_blks, trivial⟩).mono (by
    rintro avs ⟨_, _, ⟨a, rfl, wa⟩, ⟨_, _, ⟨b, rfl, wb⟩, rfl, rfl⟩, rfl⟩
    exact ⟨⟨a, b⟩, rfl, wa, wb⟩)
def Mch.ok (m : Mch) : Prop := In64 m.r0 ∧ In64 m.r1
theorem o_regs : OpensC Tryd.prog 22 (SCat [SI, SI]) := opens_array2 Tryd.underlying22 (by kernel_rfl) (by kernel_rfl) o_int
theorem o_mch : OpensC Tryd.prog 24 fun avs => ∃ m : Mch, avs = m.cells ∧ Mch.ok m :=
  (opens_fields Tryd.underlying24 (Ss := [SCat [SI, SI]]) (by kernel_rfl) ⟨o_regs, trivial⟩).mono (by
    rintro avs ⟨_, _, ⟨_, _, ⟨a, rfl, wa⟩, ⟨_, _, ⟨b, rfl, wb⟩, rfl, rfl⟩, rfl⟩, rfl, rfl⟩
    exact ⟨⟨a, b⟩, rfl, wa, wb⟩)

/-- A law that hands back true, as the row's frame asks it. -/
theorem law_calls {f : FuncId} {avs : List AV} (h : ACallIs Tryd.prog f avs (.bool true)) (w : World) (vs : List Value) (hl : vs.length = avs.length)
    (hr : ∀ (j : Nat) (x : AV), avs[j]? = some x → Rep (fun k => k < w.heap.size) w (fun _ => none) x (vs.getD j undef)) (hgv : GVok (fun k => k < w.heap.size) w := by intro _ _ h; cases h) : Calls Tryd.prog f vs.toArray w fun e w' => e = .returned (.bool true) ∧ Below w.heap.size w w' :=
  (h.out _ w vs (fun _ h => h) hl hr hgv).mono fun e w' ⟨v, F', he, hb, _, _, _, hv⟩ => by
    cases hv; exact ⟨he, hb⟩
end Go.Proofs.YtgkdmdfjfepcdaaDoor

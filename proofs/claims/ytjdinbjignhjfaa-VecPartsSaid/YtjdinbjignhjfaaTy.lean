/- Facts on the types of this seat's translation, each by the kernel; no condition. -/
import Derived.Test.YtjdinbjignhjfaaProg
import Derived.Test.YtjdinbjignhjfaaK9
namespace Go.Proofs.Ytjdinbjignhjfaa.Ty
open Go Go.K Go.Proofs
def shpL : List (Nat × (Bool × Nat)) := [(2, (false, 1)), (3, (false, 1)), (4, (false, 1)), (5, (false, 1)), (7, (true, 4)), (9, (false, 1)), (12, (false, 1)), (13, (true, 2)), (18, (true, 1)), (20, (false, 1)), (21, (false, 1)), (22, (true, 64)), (23, (false, 1)), (26, (false, 1)), (28, (true, 3)), (29, (true, 3)), (31, (false, 1)), (32, (false, 1)), (34, (false, 1)), (38, (false, 1)), (40, (false, 1)), (43, (false, 1)), (45, (false, 1)), (46, (true, 3)), (47, (false, 1)), (52, (true, 3)), (53, (false, 1)), (58, (false, 1)), (64, (false, 1)), (68, (true, 4)), (70, (false, 1)), (78, (true, 4)), (80, (true, 0)), (81, (true, 0)), (84, (false, 1)), (88, (false, 1)), (91, (true, 11)), (93, (false, 1))]
theorem shpA : shpL.map (fun p => (fun t => shp Try.prog t) p.1) = shpL.map (fun p => some p.2) := by kernel_rfl
def sleL : List (Nat × (TypeId × (Bool × Nat))) := [(26, (29, (true, 3))), (31, (5, (false, 1))), (34, (31, (false, 1))), (38, (32, (false, 1))), (53, (47, (false, 1))), (58, (3, (false, 1)))]
theorem sleA : sleL.map (fun p => (fun t => sle Try.prog t) p.1) = sleL.map (fun p => some p.2) := by kernel_rfl
def arrL : List (Nat × (Nat × (Bool × Nat))) := [(22, (64, (false, 1))), (46, (3, (false, 1))), (52, (3, (false, 1))), (68, (4, (false, 1))), (80, (0, (false, 1)))]
theorem arrA : arrL.map (fun p => (fun t => arr Try.prog t) p.1) = arrL.map (fun p => some p.2) := by kernel_rfl
def kndL : List (Nat × (IntKind)) := [(2, .i64), (3, .i64), (5, .u8), (12, .u64), (21, .i32), (23, .u64), (32, .u16), (43, .u64), (45, .i8), (70, .i64), (84, .u32)]
theorem kndA : kndL.map (fun p => (fun t => kindOf Try.prog t) p.1) = kndL.map (fun p => some p.2) := by kernel_rfl
def issL : List (Nat × (Bool)) := [(9, true)]
theorem issA : issL.map (fun p => (fun t => some (isStr Try.prog t)) p.1) = issL.map (fun p => some p.2) := by kernel_rfl
def zerL : List (Nat × (List Value)) := [(2, [.int .i64 0]), (3, [.int .i64 0]), (4, [.bool false]), (5, [.int .u8 0]), (7, [.int .i64 0, .int .i64 0, .bool false, .int .u8 0]), (9, [.string ⟨#[]⟩]), (12, [.int .u64 0]), (13, [.string ⟨#[]⟩, .int .u64 0]), (18, [.pointer none]), (20, [.nilIface]), (21, [.int .i32 0]), (22, (List.replicate 64 (.int .i64 0))), (23, [.int .u64 0]), (26, [.slice none 0 0]), (28, [.int .i64 0, .int .i64 0, .bool false]), (29, [.int .i64 0, .int .i64 0, .bool false]), (31, [.slice none 0 0]), (32, [.int .u16 0]), (34, [.slice none 0 0]), (38, [.slice none 0 0]), (40, [.map none]), (43, [.int .u64 0]), (45, [.int .i8 0]), (46, [.int .i8 0, .int .i8 0, .int .i8 0]), (47, [.complex .f64 0 0]), (52, [.int .i64 0, .int .i64 0, .int .i64 0]), (53, [.slice none 0 0]), (58, [.slice none 0 0]), (64, [.float .f64 0]), (68, [.complex .f64 0 0, .complex .f64 0 0, .complex .f64 0 0, .complex .f64 0 0]), (70, [.int .i64 0]), (78, [.pointer none, .pointer none, .pointer none, .string ⟨#[]⟩]), (80, []), (81, []), (84, [.int .u32 0]), (88, [.pointer none]), (91, (List.replicate 2 (.int .u64 0) ++ [.int .u32 0] ++ List.replicate 4 (.int .u8 0) ++ [.nilFunc] ++ [.pointer none] ++ List.replicate 2 (.int .i32 0))), (93, [.pointer none])]
theorem zerA : zerL.map (fun p => (fun t => K.zer Try.prog t) p.1) = zerL.map (fun p => some p.2) := by kernel_rfl
def bytL : List (Nat × (Nat)) := [(2, 8), (3, 8), (4, 1), (5, 1), (7, 24), (9, 16), (12, 8), (13, 24), (18, 8), (20, 16), (21, 4), (22, 512), (23, 8), (26, 24), (28, 24), (29, 24), (31, 24), (32, 2), (34, 24), (38, 24), (40, 8), (43, 8), (45, 1), (46, 3), (47, 16), (52, 24), (53, 24), (58, 24), (64, 8), (68, 64), (70, 8), (78, 40), (80, 0), (81, 0), (84, 4), (88, 8), (91, 48), (93, 8)]
theorem bytA : bytL.map (fun p => (fun t => K.byt Try.prog t) p.1) = bytL.map (fun p => some p.2) := by kernel_rfl
def fldL : List (Nat × (Nat × (Bool × Nat))) := [(448, (0, (false, 1))), (449, (1, (false, 1))), (450, (2, (false, 1))), (451, (3, (false, 1))), (832, (0, (false, 1))), (833, (1, (false, 1))), (1152, (0, (false, 1))), (1792, (0, (false, 1))), (1793, (1, (false, 1))), (1794, (2, (false, 1))), (1856, (0, (false, 1))), (1857, (1, (false, 1))), (1858, (2, (false, 1))), (4992, (0, (false, 1))), (4993, (1, (false, 1))), (4994, (2, (false, 1))), (4995, (3, (false, 1))), (5184, (0, (true, 0))), (5824, (0, (false, 1))), (5825, (1, (false, 1))), (5826, (2, (false, 1))), (5827, (3, (false, 1))), (5828, (4, (false, 1))), (5829, (5, (false, 1))), (5830, (6, (false, 1))), (5831, (7, (false, 1))), (5832, (8, (false, 1))), (5833, (9, (false, 1))), (5834, (10, (false, 1)))]
theorem fldA : fldL.map (fun p => (fun t => K.fld Try.prog (t / 64) (t % 64)) p.1) = fldL.map (fun p => some p.2) := by kernel_rfl
def plcL : List (Nat × (List (Nat × Nat))) := [(7, [(0, 1), (1, 1), (2, 1), (3, 1)]), (13, [(0, 1), (1, 1)]), (18, [(0, 1)]), (28, [(0, 1), (1, 1), (2, 1)]), (29, [(0, 1), (1, 1), (2, 1)]), (78, [(0, 1), (1, 1), (2, 1), (3, 1)]), (81, [(0, 0)]), (91, [(0, 1), (1, 1), (2, 1), (3, 1), (4, 1), (5, 1), (6, 1), (7, 1), (8, 1), (9, 1), (10, 1)])]
theorem plcA : plcL.map (fun p => (fun t => plcs Try.prog t) p.1) = plcL.map (fun p => some p.2) := by kernel_rfl
def kdsL : List (Nat × (List (Option IntKind))) := [(7, [some .i64, some .i64, none, some .u8]), (22, (List.replicate 64 (some .i64))), (28, [some .i64, some .i64, none]), (29, [some .i64, some .i64, none]), (46, [some .i8, some .i8, some .i8]), (52, [some .i64, some .i64, some .i64])]
theorem kdsA : kdsL.map (fun p => (fun t => knds Try.prog t) p.1) = kdsL.map (fun p => some p.2) := by kernel_rfl
theorem shp {t : TypeId} {q : Bool × Nat} (h : lk t shpL = some q) : K.shp Try.prog t = some q := lk_map shpA h
theorem sle {t : TypeId} {q : TypeId × (Bool × Nat)} (h : lk t sleL = some q) : K.sle Try.prog t = some q := lk_map sleA h
theorem isl {t : TypeId} {q : TypeId × (Bool × Nat)} (h : lk t sleL = some q) : isSlice Try.prog t = true := isSlice_of (sle h)
theorem arr {t : TypeId} {q : Nat × (Bool × Nat)} (h : lk t arrL = some q) : K.arr Try.prog t = some q := lk_map arrA h
theorem knd {t : TypeId} {q : IntKind} (h : lk t kndL = some q) : kindOf Try.prog t = some q := lk_map kndA h
theorem und {t : TypeId} {q : Bool × Nat} (h : lk t shpL = some q) : (Try.prog.underlying t).isSome = true := und_of (shp h)
theorem iss {t : TypeId} (h : lk t issL = some true) : isStr Try.prog t = true := by have := lk_map (F := fun t => some (isStr Try.prog t)) issA h; simpa using this
theorem zer {t : TypeId} {q : List Value} (h : lk t zerL = some q) : K.zer Try.prog t = some q := lk_map zerA h
theorem byt {t : TypeId} {q : Nat} (h : lk t bytL = some q) : K.byt Try.prog t = some q := lk_map bytA h
theorem plc {t : TypeId} {q : List (Nat × Nat)} (h : lk t plcL = some q) : plcs Try.prog t = some q := lk_map plcA h
theorem kds {t : TypeId} {q : List (Option IntKind)} (h : lk t kdsL = some q) : knds Try.prog t = some q := lk_map kdsA h
theorem fld {t i : Nat} {q : Nat × (Bool × Nat)} (hi : Nat.blt i 64 = true) (h : lk (t * 64 + i) fldL = some q) : K.fld Try.prog t i = some q := by
  have h1 := lk_map (F := fun t => K.fld Try.prog (t / 64) (t % 64)) fldA h
  have hi' : i < 64 := by simpa [Nat.blt_eq] using hi
  have e1 : (t * 64 + i) / 64 = t := by omega
  have e2 : (t * 64 + i) % 64 = i := by omega
  simpa only [e1, e2] using h1
theorem mixed : Try.prog.follows .mixedOrders = true := by kernel_rfl
end Go.Proofs.Ytjdinbjignhjfaa.Ty

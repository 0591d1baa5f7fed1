/- Gr: facts of types. -/
import Derived.Test.YtjcbedgpmjgcdaaDoorHb
import Derived.Test.YtjcbedgpmjgcdaaDoorProg
namespace Go.Proofs.YtjcbedgpmjgcdaaDoor.Abs
open Go Go.RowKit
set_option linter.unusedVariables false
theorem mixed : Tryd.prog.follows .mixedOrders = true := by kernel_rfl
theorem ty23 : Ty Tryd.prog 23 true 2 := ⟨by kernel_rfl, by kernel_rfl⟩
theorem z23 : (Tryd.prog.info? 23).bind (·.zero) = some (.agg #[(.int .i64 0), (.int .i64 0)]) := by kernel_rfl
theorem f23_0 : FieldF Tryd.prog 23 0 0 3 := ⟨by kernel_rfl⟩
theorem ty3 : Ty Tryd.prog 3 false 1 := ⟨by kernel_rfl, by kernel_rfl⟩
theorem u3 : Tryd.prog.underlying 3 = some (.int .i64) := by kernel_rfl
theorem u21 : Tryd.prog.underlying 21 = some (.int .i32) := by kernel_rfl
theorem f23_1 : FieldF Tryd.prog 23 1 1 3 := ⟨by kernel_rfl⟩
theorem st23 : StrF Tryd.prog 23 #[⟨ "Lo", 3, 0, false, "", "", 0⟩, ⟨ "Hi", 3, 1, false, "", "", 8⟩] [(0, 1), (1, 1)] (.agg #[(.int .i64 0), (.int .i64 0)]) [.pv (.int .i64 0), .pv (.int .i64 0)] := ⟨by kernel_rfl, by kernel_rfl, by kernel_rfl, by kernel_rfl⟩
theorem z29 : (Tryd.prog.info? 29).bind (·.zero) = some (.agg #[(.int .i64 0), (.int .i64 0)]) := by kernel_rfl
theorem st29 : StrF Tryd.prog 29 #[⟨ "Lo", 3, 0, false, "", "", 0⟩, ⟨ "Hi", 3, 1, false, "", "", 8⟩] [(0, 1), (1, 1)] (.agg #[(.int .i64 0), (.int .i64 0)]) [.pv (.int .i64 0), .pv (.int .i64 0)] := ⟨by kernel_rfl, by kernel_rfl, by kernel_rfl, by kernel_rfl⟩
theorem ty29 : Ty Tryd.prog 29 true 2 := ⟨by kernel_rfl, by kernel_rfl⟩
theorem f29_0 : FieldF Tryd.prog 29 0 0 3 := ⟨by kernel_rfl⟩
theorem f29_1 : FieldF Tryd.prog 29 1 1 3 := ⟨by kernel_rfl⟩
theorem sp29 : Tryd.prog.stoodInHeld 29 = false := by kernel_rfl
theorem eg29 : Tryd.prog.eqGuardType Tryd.prog.depth 29 = false := by kernel_rfl
theorem u29 : Tryd.prog.underlying 29 = some (.struct #[⟨ "Lo", 3, 0, false, "", "", 0⟩, ⟨ "Hi", 3, 1, false, "", "", 8⟩]) := by kernel_rfl
theorem st25 : StrF Tryd.prog 25 #[⟨ "Proc", 3, 0, false, "", "", 0⟩, ⟨ "Edge", 3, 1, false, "", "", 8⟩, ⟨ "Kind", 3, 2, false, "", "", 16⟩] [(0, 1), (1, 1), (2, 1)] (.agg #[(.int .i64 0), (.int .i64 0), (.int .i64 0)]) [.pv (.int .i64 0), .pv (.int .i64 0), .pv (.int .i64 0)] := ⟨by kernel_rfl, by kernel_rfl, by kernel_rfl, by kernel_rfl⟩
theorem f25_2 : FieldF Tryd.prog 25 2 2 3 := ⟨by kernel_rfl⟩
theorem ty9 : Ty Tryd.prog 9 false 1 := ⟨by kernel_rfl, by kernel_rfl⟩
theorem u82 : Tryd.prog.underlying 82 = some (.array 7 9) := by kernel_rfl
theorem f25_0 : FieldF Tryd.prog 25 0 0 3 := ⟨by kernel_rfl⟩
theorem f25_1 : FieldF Tryd.prog 25 1 1 3 := ⟨by kernel_rfl⟩
theorem st55 : StrF Tryd.prog 55 #[⟨ "At", 52, 0, false, "", "", 0⟩, ⟨ "Elems", 53, 1, false, "", "", 24⟩, ⟨ "Alarms", 35, 2, false, "", "", 48⟩, ⟨ "Steps", 3, 3, false, "", "", 72⟩] [(0, 1), (1, 1), (2, 1), (3, 1)] (.agg #[(.slice none 0 0), (.slice none 0 0), (.slice none 0 0), (.int .i64 0)]) [.emp, .emp, .emp, .pv (.int .i64 0)] := ⟨by kernel_rfl, by kernel_rfl, by kernel_rfl, by kernel_rfl⟩
theorem f55_3 : FieldF Tryd.prog 55 3 3 3 := ⟨by kernel_rfl⟩
theorem sl70 : SlF Tryd.prog 70 9 1 (.string (ByteArray.mk #[])) [.pv (.str (ByteArray.mk #[]))] := ⟨by kernel_rfl, by kernel_rfl, by kernel_rfl⟩
theorem f55_0 : FieldF Tryd.prog 55 0 0 52 := ⟨by kernel_rfl⟩
theorem ty52 : Ty Tryd.prog 52 false 1 := ⟨by kernel_rfl, by kernel_rfl⟩
theorem u52 : Tryd.prog.underlying 52 = some (.slice 51) := by kernel_rfl
theorem ty51 : Ty Tryd.prog 51 false 1 := ⟨by kernel_rfl, by kernel_rfl⟩
theorem u70 : Tryd.prog.underlying 70 = some (.slice 9) := by kernel_rfl
theorem te9 : TyE Tryd.prog 9 1 16 := ⟨by kernel_rfl⟩
theorem u51 : Tryd.prog.underlying 51 = some (.slice 47) := by kernel_rfl
theorem ty47 : Ty Tryd.prog 47 true 55 := ⟨by kernel_rfl, by kernel_rfl⟩
theorem z47 : (Tryd.prog.info? 47).bind (·.zero) = some (.agg #[(.bool false), (.slice none 0 0), (.int .i64 0), (.bool false), (.int .i64 0), (.int .i64 0), (.int .i64 0), (.int .i64 0), (.int .i64 0), (.int .i64 0), (.int .i64 0), (.int .i64 0), (.int .i64 0), (.int .i64 0), (.int .i64 0), (.int .i64 0), (.int .i64 0), (.int .i64 0), (.int .i64 0), (.int .i64 0), (.int .i64 0), (.int .i64 0), (.int .i64 0), (.int .i64 0), (.int .i64 0), (.int .i64 0), (.int .i64 0), (.int .i64 0), (.int .i64 0), (.int .i64 0), (.int .i64 0), (.int .i64 0), (.int .i64 0), (.int .i64 0), (.int .i64 0), (.int .i64 0), (.int .i64 0), (.int .i64 0), (.int .i64 0), (.int .i64 0), (.int .i64 0), (.int .i64 0), (.int .i64 0), (.int .i64 0), (.int .i64 0), (.int .i64 0), (.int .i64 0), (.int .i64 0), (.int .i64 0), (.int .i64 0), (.int .i64 0), (.int .i64 0), (.int .i64 0), (.slice none 0 0), (.slice none 0 0)]) := by kernel_rfl
theorem f47_0 : FieldF Tryd.prog 47 0 0 44 := ⟨by kernel_rfl⟩
theorem ty44 : Ty Tryd.prog 44 true 53 := ⟨by kernel_rfl, by kernel_rfl⟩
theorem f44_0 : FieldF Tryd.prog 44 0 0 4 := ⟨by kernel_rfl⟩
theorem ty4 : Ty Tryd.prog 4 false 1 := ⟨by kernel_rfl, by kernel_rfl⟩
theorem f44_1 : FieldF Tryd.prog 44 1 1 38 := ⟨by kernel_rfl⟩
theorem ty38 : Ty Tryd.prog 38 false 1 := ⟨by kernel_rfl, by kernel_rfl⟩
theorem u38 : Tryd.prog.underlying 38 = some (.slice 29) := by kernel_rfl
theorem f55_1 : FieldF Tryd.prog 55 1 1 53 := ⟨by kernel_rfl⟩
theorem ty53 : Ty Tryd.prog 53 false 1 := ⟨by kernel_rfl, by kernel_rfl⟩
theorem u53 : Tryd.prog.underlying 53 = some (.slice 50) := by kernel_rfl
theorem ty50 : Ty Tryd.prog 50 true 3 := ⟨by kernel_rfl, by kernel_rfl⟩
theorem z50 : (Tryd.prog.info? 50).bind (·.zero) = some (.agg #[(.int .i64 0), (.int .i64 0), (.slice none 0 0)]) := by kernel_rfl
theorem f50_0 : FieldF Tryd.prog 50 0 0 29 := ⟨by kernel_rfl⟩
theorem f50_1 : FieldF Tryd.prog 50 1 2 38 := ⟨by kernel_rfl⟩
theorem sl94 : SlF Tryd.prog 94 3 1 (.int .i64 0) [.pv (.int .i64 0)] := ⟨by kernel_rfl, by kernel_rfl, by kernel_rfl⟩
theorem u94 : Tryd.prog.underlying 94 = some (.slice 3) := by kernel_rfl
theorem te3 : TyE Tryd.prog 3 1 8 := ⟨by kernel_rfl⟩
theorem f55_2 : FieldF Tryd.prog 55 2 2 35 := ⟨by kernel_rfl⟩
theorem ty35 : Ty Tryd.prog 35 false 1 := ⟨by kernel_rfl, by kernel_rfl⟩
theorem u35 : Tryd.prog.underlying 35 = some (.slice 25) := by kernel_rfl
theorem ty25 : Ty Tryd.prog 25 true 3 := ⟨by kernel_rfl, by kernel_rfl⟩
theorem z25 : (Tryd.prog.info? 25).bind (·.zero) = some (.agg #[(.int .i64 0), (.int .i64 0), (.int .i64 0)]) := by kernel_rfl
theorem u58 : Tryd.prog.underlying 58 = some (.int .u64) := by kernel_rfl
theorem u5 : Tryd.prog.underlying 5 = some (.int .u8) := by kernel_rfl
theorem sl73 : SlF Tryd.prog 73 5 1 (.int .u8 0) [.pv (.int .u8 0)] := ⟨by kernel_rfl, by kernel_rfl, by kernel_rfl⟩
theorem u73 : Tryd.prog.underlying 73 = some (.slice 5) := by kernel_rfl
theorem u9 : Tryd.prog.underlying 9 = some (.string) := by kernel_rfl
theorem f37_2 : FieldF Tryd.prog 37 2 2 4 := ⟨by kernel_rfl⟩
theorem st44 : StrF Tryd.prog 44 #[⟨ "None", 4, 0, false, "", "", 0⟩, ⟨ "I", 38, 1, false, "", "", 8⟩, ⟨ "Z", 42, 2, false, "", "", 32⟩] [(0, 1), (1, 1), (2, 51)] (.agg #[(.bool false), (.slice none 0 0), (.int .i64 0), (.bool false), (.int .i64 0), (.int .i64 0), (.int .i64 0), (.int .i64 0), (.int .i64 0), (.int .i64 0), (.int .i64 0), (.int .i64 0), (.int .i64 0), (.int .i64 0), (.int .i64 0), (.int .i64 0), (.int .i64 0), (.int .i64 0), (.int .i64 0), (.int .i64 0), (.int .i64 0), (.int .i64 0), (.int .i64 0), (.int .i64 0), (.int .i64 0), (.int .i64 0), (.int .i64 0), (.int .i64 0), (.int .i64 0), (.int .i64 0), (.int .i64 0), (.int .i64 0), (.int .i64 0), (.int .i64 0), (.int .i64 0), (.int .i64 0), (.int .i64 0), (.int .i64 0), (.int .i64 0), (.int .i64 0), (.int .i64 0), (.int .i64 0), (.int .i64 0), (.int .i64 0), (.int .i64 0), (.int .i64 0), (.int .i64 0), (.int .i64 0), (.int .i64 0), (.int .i64 0), (.int .i64 0), (.int .i64 0), (.int .i64 0)]) [.pv (.bool false), .emp, .pv (.int .i64 0), .pv (.bool false), .pv (.int .i64 0), .pv (.int .i64 0), .pv (.int .i64 0), .pv (.int .i64 0), .pv (.int .i64 0), .pv (.int .i64 0), .pv (.int .i64 0), .pv (.int .i64 0), .pv (.int .i64 0), .pv (.int .i64 0), .pv (.int .i64 0), .pv (.int .i64 0), .pv (.int .i64 0), .pv (.int .i64 0), .pv (.int .i64 0), .pv (.int .i64 0), .pv (.int .i64 0), .pv (.int .i64 0), .pv (.int .i64 0), .pv (.int .i64 0), .pv (.int .i64 0), .pv (.int .i64 0), .pv (.int .i64 0), .pv (.int .i64 0), .pv (.int .i64 0), .pv (.int .i64 0), .pv (.int .i64 0), .pv (.int .i64 0), .pv (.int .i64 0), .pv (.int .i64 0), .pv (.int .i64 0), .pv (.int .i64 0), .pv (.int .i64 0), .pv (.int .i64 0), .pv (.int .i64 0), .pv (.int .i64 0), .pv (.int .i64 0), .pv (.int .i64 0), .pv (.int .i64 0), .pv (.int .i64 0), .pv (.int .i64 0), .pv (.int .i64 0), .pv (.int .i64 0), .pv (.int .i64 0), .pv (.int .i64 0), .pv (.int .i64 0), .pv (.int .i64 0), .pv (.int .i64 0), .pv (.int .i64 0)] := ⟨by kernel_rfl, by kernel_rfl, by kernel_rfl, by kernel_rfl⟩
theorem st47 : StrF Tryd.prog 47 #[⟨ "N", 44, 0, false, "", "", 0⟩, ⟨ "Counts", 38, 53, false, "", "", 440⟩, ⟨ "Rules", 45, 54, false, "", "", 464⟩] [(0, 53), (53, 1), (54, 1)] (.agg #[(.bool false), (.slice none 0 0), (.int .i64 0), (.bool false), (.int .i64 0), (.int .i64 0), (.int .i64 0), (.int .i64 0), (.int .i64 0), (.int .i64 0), (.int .i64 0), (.int .i64 0), (.int .i64 0), (.int .i64 0), (.int .i64 0), (.int .i64 0), (.int .i64 0), (.int .i64 0), (.int .i64 0), (.int .i64 0), (.int .i64 0), (.int .i64 0), (.int .i64 0), (.int .i64 0), (.int .i64 0), (.int .i64 0), (.int .i64 0), (.int .i64 0), (.int .i64 0), (.int .i64 0), (.int .i64 0), (.int .i64 0), (.int .i64 0), (.int .i64 0), (.int .i64 0), (.int .i64 0), (.int .i64 0), (.int .i64 0), (.int .i64 0), (.int .i64 0), (.int .i64 0), (.int .i64 0), (.int .i64 0), (.int .i64 0), (.int .i64 0), (.int .i64 0), (.int .i64 0), (.int .i64 0), (.int .i64 0), (.int .i64 0), (.int .i64 0), (.int .i64 0), (.int .i64 0), (.slice none 0 0), (.slice none 0 0)]) [.pv (.bool false), .emp, .pv (.int .i64 0), .pv (.bool false), .pv (.int .i64 0), .pv (.int .i64 0), .pv (.int .i64 0), .pv (.int .i64 0), .pv (.int .i64 0), .pv (.int .i64 0), .pv (.int .i64 0), .pv (.int .i64 0), .pv (.int .i64 0), .pv (.int .i64 0), .pv (.int .i64 0), .pv (.int .i64 0), .pv (.int .i64 0), .pv (.int .i64 0), .pv (.int .i64 0), .pv (.int .i64 0), .pv (.int .i64 0), .pv (.int .i64 0), .pv (.int .i64 0), .pv (.int .i64 0), .pv (.int .i64 0), .pv (.int .i64 0), .pv (.int .i64 0), .pv (.int .i64 0), .pv (.int .i64 0), .pv (.int .i64 0), .pv (.int .i64 0), .pv (.int .i64 0), .pv (.int .i64 0), .pv (.int .i64 0), .pv (.int .i64 0), .pv (.int .i64 0), .pv (.int .i64 0), .pv (.int .i64 0), .pv (.int .i64 0), .pv (.int .i64 0), .pv (.int .i64 0), .pv (.int .i64 0), .pv (.int .i64 0), .pv (.int .i64 0), .pv (.int .i64 0), .pv (.int .i64 0), .pv (.int .i64 0), .pv (.int .i64 0), .pv (.int .i64 0), .pv (.int .i64 0), .pv (.int .i64 0), .pv (.int .i64 0), .pv (.int .i64 0), .emp, .emp] := ⟨by kernel_rfl, by kernel_rfl, by kernel_rfl, by kernel_rfl⟩
theorem f37_1 : FieldF Tryd.prog 37 1 1 34 := ⟨by kernel_rfl⟩
theorem ty34 : Ty Tryd.prog 34 false 1 := ⟨by kernel_rfl, by kernel_rfl⟩
theorem u34 : Tryd.prog.underlying 34 = some (.slice 23) := by kernel_rfl
theorem sl38 : SlF Tryd.prog 38 29 2 (.agg #[(.int .i64 0), (.int .i64 0)]) [.pv (.int .i64 0), .pv (.int .i64 0)] := ⟨by kernel_rfl, by kernel_rfl, by kernel_rfl⟩
theorem te29 : TyE Tryd.prog 29 2 16 := ⟨by kernel_rfl⟩
theorem st50 : StrF Tryd.prog 50 #[⟨ "Len", 29, 0, false, "", "", 0⟩, ⟨ "Vals", 38, 2, false, "", "", 16⟩] [(0, 2), (2, 1)] (.agg #[(.int .i64 0), (.int .i64 0), (.slice none 0 0)]) [.pv (.int .i64 0), .pv (.int .i64 0), .emp] := ⟨by kernel_rfl, by kernel_rfl, by kernel_rfl, by kernel_rfl⟩
theorem f37_3 : FieldF Tryd.prog 37 3 3 34 := ⟨by kernel_rfl⟩
theorem f37_0 : FieldF Tryd.prog 37 0 0 3 := ⟨by kernel_rfl⟩
theorem sl51 : SlF Tryd.prog 51 47 55 (.agg #[(.bool false), (.slice none 0 0), (.int .i64 0), (.bool false), (.int .i64 0), (.int .i64 0), (.int .i64 0), (.int .i64 0), (.int .i64 0), (.int .i64 0), (.int .i64 0), (.int .i64 0), (.int .i64 0), (.int .i64 0), (.int .i64 0), (.int .i64 0), (.int .i64 0), (.int .i64 0), (.int .i64 0), (.int .i64 0), (.int .i64 0), (.int .i64 0), (.int .i64 0), (.int .i64 0), (.int .i64 0), (.int .i64 0), (.int .i64 0), (.int .i64 0), (.int .i64 0), (.int .i64 0), (.int .i64 0), (.int .i64 0), (.int .i64 0), (.int .i64 0), (.int .i64 0), (.int .i64 0), (.int .i64 0), (.int .i64 0), (.int .i64 0), (.int .i64 0), (.int .i64 0), (.int .i64 0), (.int .i64 0), (.int .i64 0), (.int .i64 0), (.int .i64 0), (.int .i64 0), (.int .i64 0), (.int .i64 0), (.int .i64 0), (.int .i64 0), (.int .i64 0), (.int .i64 0), (.slice none 0 0), (.slice none 0 0)]) [.pv (.bool false), .emp, .pv (.int .i64 0), .pv (.bool false), .pv (.int .i64 0), .pv (.int .i64 0), .pv (.int .i64 0), .pv (.int .i64 0), .pv (.int .i64 0), .pv (.int .i64 0), .pv (.int .i64 0), .pv (.int .i64 0), .pv (.int .i64 0), .pv (.int .i64 0), .pv (.int .i64 0), .pv (.int .i64 0), .pv (.int .i64 0), .pv (.int .i64 0), .pv (.int .i64 0), .pv (.int .i64 0), .pv (.int .i64 0), .pv (.int .i64 0), .pv (.int .i64 0), .pv (.int .i64 0), .pv (.int .i64 0), .pv (.int .i64 0), .pv (.int .i64 0), .pv (.int .i64 0), .pv (.int .i64 0), .pv (.int .i64 0), .pv (.int .i64 0), .pv (.int .i64 0), .pv (.int .i64 0), .pv (.int .i64 0), .pv (.int .i64 0), .pv (.int .i64 0), .pv (.int .i64 0), .pv (.int .i64 0), .pv (.int .i64 0), .pv (.int .i64 0), .pv (.int .i64 0), .pv (.int .i64 0), .pv (.int .i64 0), .pv (.int .i64 0), .pv (.int .i64 0), .pv (.int .i64 0), .pv (.int .i64 0), .pv (.int .i64 0), .pv (.int .i64 0), .pv (.int .i64 0), .pv (.int .i64 0), .pv (.int .i64 0), .pv (.int .i64 0), .emp, .emp] := ⟨by kernel_rfl, by kernel_rfl, by kernel_rfl⟩
theorem sl52 : SlF Tryd.prog 52 51 1 (.slice none 0 0) [.emp] := ⟨by kernel_rfl, by kernel_rfl, by kernel_rfl⟩
theorem sl53 : SlF Tryd.prog 53 50 3 (.agg #[(.int .i64 0), (.int .i64 0), (.slice none 0 0)]) [.pv (.int .i64 0), .pv (.int .i64 0), .emp] := ⟨by kernel_rfl, by kernel_rfl, by kernel_rfl⟩
theorem f37_4 : FieldF Tryd.prog 37 4 4 35 := ⟨by kernel_rfl⟩
theorem z55 : (Tryd.prog.info? 55).bind (·.zero) = some (.agg #[(.slice none 0 0), (.slice none 0 0), (.slice none 0 0), (.int .i64 0)]) := by kernel_rfl
theorem ty55 : Ty Tryd.prog 55 true 4 := ⟨by kernel_rfl, by kernel_rfl⟩
def tb : Tb := ⟨[(3, false, 1), (4, false, 1), (9, false, 1), (23, true, 2), (25, true, 3), (29, true, 2), (34, false, 1), (35, false, 1), (38, false, 1), (44, true, 53), (47, true, 55), (50, true, 3), (51, false, 1), (52, false, 1), (53, false, 1), (55, true, 4)], [((23, 0), 0, 3), ((23, 1), 1, 3), ((25, 0), 0, 3), ((25, 1), 1, 3), ((25, 2), 2, 3), ((29, 0), 0, 3), ((29, 1), 1, 3), ((37, 0), 0, 3), ((37, 1), 1, 34), ((37, 2), 2, 4), ((37, 3), 3, 34), ((37, 4), 4, 35), ((44, 0), 0, 4), ((44, 1), 1, 38), ((47, 0), 0, 44), ((50, 0), 0, 29), ((50, 1), 2, 38), ((55, 0), 0, 52), ((55, 1), 1, 53), ((55, 2), 2, 35), ((55, 3), 3, 3)], [(3, .i64), (5, .u8), (21, .i32), (58, .u64)]⟩
theorem tbok : TbOk Tryd.prog tb := chkTb_ok (by kernel_rfl)

end Go.Proofs.YtjcbedgpmjgcdaaDoor.Abs

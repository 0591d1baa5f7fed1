/- Gb: facts of types. -/
import Derived.Test.YtbebnddalipfhaaAbsT
import Derived.Test.YtbebnddalipfhaaProg
namespace Go.Proofs.Ytbebnddalipfhaa.Abs
open Go Go.RowKit
set_option linter.unusedVariables false
theorem mixed : Try.prog.follows .mixedOrders = true := by kernel_rfl
theorem u3 : Try.prog.underlying 3 = some (.int .i64) := by kernel_rfl
theorem u27 : Try.prog.underlying 27 = some (.int .u64) := by kernel_rfl
theorem st73 : StrF Try.prog 73 #[⟨ "Kind", 3, 0, false, "", "", 0⟩, ⟨ "Size", 3, 1, false, "", "", 8⟩, ⟨ "From", 3, 2, false, "", "", 16⟩, ⟨ "To", 3, 3, false, "", "", 24⟩, ⟨ "Tags", 3, 4, false, "", "", 32⟩, ⟨ "Rule", 71, 5, false, "", "", 40⟩] [(0, 1), (1, 1), (2, 1), (3, 1), (4, 1), (5, 1)] (.agg #[(.int .i64 0), (.int .i64 0), (.int .i64 0), (.int .i64 0), (.int .i64 0), (.slice none 0 0)]) [.pv (.int .i64 0), .pv (.int .i64 0), .pv (.int .i64 0), .pv (.int .i64 0), .pv (.int .i64 0), .emp] := ⟨by kernel_rfl, by kernel_rfl, by kernel_rfl, by kernel_rfl⟩
theorem z73 : (Try.prog.info? 73).bind (·.zero) = some (.agg #[(.int .i64 0), (.int .i64 0), (.int .i64 0), (.int .i64 0), (.int .i64 0), (.slice none 0 0)]) := by kernel_rfl
theorem ty73 : Ty Try.prog 73 true 6 := ⟨by kernel_rfl, by kernel_rfl⟩
theorem sl37 : SlF Try.prog 37 73 6 (.agg #[(.int .i64 0), (.int .i64 0), (.int .i64 0), (.int .i64 0), (.int .i64 0), (.slice none 0 0)]) [.pv (.int .i64 0), .pv (.int .i64 0), .pv (.int .i64 0), .pv (.int .i64 0), .pv (.int .i64 0), .emp] := ⟨by kernel_rfl, by kernel_rfl, by kernel_rfl⟩
theorem st25 : StrF Try.prog 25 #[⟨ "Kind", 3, 0, false, "", "", 0⟩, ⟨ "Num", 3, 1, false, "", "", 8⟩, ⟨ "Var", 3, 2, false, "", "", 16⟩, ⟨ "Kids", 23, 3, false, "", "", 24⟩] [(0, 1), (1, 1), (2, 1), (3, 1)] (.agg #[(.int .i64 0), (.int .i64 0), (.int .i64 0), (.slice none 0 0)]) [.pv (.int .i64 0), .pv (.int .i64 0), .pv (.int .i64 0), .emp] := ⟨by kernel_rfl, by kernel_rfl, by kernel_rfl, by kernel_rfl⟩
theorem st31 : StrF Try.prog 31 #[⟨ "From", 3, 0, false, "", "", 0⟩, ⟨ "To", 3, 1, false, "", "", 8⟩, ⟨ "Kind", 3, 2, false, "", "", 16⟩, ⟨ "Var", 3, 3, false, "", "", 24⟩, ⟨ "Chan", 3, 4, false, "", "", 32⟩, ⟨ "Tag", 3, 5, false, "", "", 40⟩, ⟨ "E", 25, 6, false, "", "", 48⟩, ⟨ "C", 29, 10, false, "", "", 96⟩] [(0, 1), (1, 1), (2, 1), (3, 1), (4, 1), (5, 1), (6, 4), (10, 9)] (.agg #[(.int .i64 0), (.int .i64 0), (.int .i64 0), (.int .i64 0), (.int .i64 0), (.int .i64 0), (.int .i64 0), (.int .i64 0), (.int .i64 0), (.slice none 0 0), (.int .i64 0), (.int .i64 0), (.int .i64 0), (.int .i64 0), (.slice none 0 0), (.int .i64 0), (.int .i64 0), (.int .i64 0), (.slice none 0 0)]) [.pv (.int .i64 0), .pv (.int .i64 0), .pv (.int .i64 0), .pv (.int .i64 0), .pv (.int .i64 0), .pv (.int .i64 0), .pv (.int .i64 0), .pv (.int .i64 0), .pv (.int .i64 0), .emp, .pv (.int .i64 0), .pv (.int .i64 0), .pv (.int .i64 0), .pv (.int .i64 0), .emp, .pv (.int .i64 0), .pv (.int .i64 0), .pv (.int .i64 0), .emp] := ⟨by kernel_rfl, by kernel_rfl, by kernel_rfl, by kernel_rfl⟩
theorem sl32 : SlF Try.prog 32 31 19 (.agg #[(.int .i64 0), (.int .i64 0), (.int .i64 0), (.int .i64 0), (.int .i64 0), (.int .i64 0), (.int .i64 0), (.int .i64 0), (.int .i64 0), (.slice none 0 0), (.int .i64 0), (.int .i64 0), (.int .i64 0), (.int .i64 0), (.slice none 0 0), (.int .i64 0), (.int .i64 0), (.int .i64 0), (.slice none 0 0)]) [.pv (.int .i64 0), .pv (.int .i64 0), .pv (.int .i64 0), .pv (.int .i64 0), .pv (.int .i64 0), .pv (.int .i64 0), .pv (.int .i64 0), .pv (.int .i64 0), .pv (.int .i64 0), .emp, .pv (.int .i64 0), .pv (.int .i64 0), .pv (.int .i64 0), .pv (.int .i64 0), .emp, .pv (.int .i64 0), .pv (.int .i64 0), .pv (.int .i64 0), .emp] := ⟨by kernel_rfl, by kernel_rfl, by kernel_rfl⟩
theorem st35 : StrF Try.prog 35 #[⟨ "Nodes", 3, 0, false, "", "", 0⟩, ⟨ "Edges", 32, 1, false, "", "", 8⟩, ⟨ "Heads", 33, 2, false, "", "", 32⟩] [(0, 1), (1, 1), (2, 1)] (.agg #[(.int .i64 0), (.slice none 0 0), (.slice none 0 0)]) [.pv (.int .i64 0), .emp, .emp] := ⟨by kernel_rfl, by kernel_rfl, by kernel_rfl, by kernel_rfl⟩
theorem sl36 : SlF Try.prog 36 35 3 (.agg #[(.int .i64 0), (.slice none 0 0), (.slice none 0 0)]) [.pv (.int .i64 0), .emp, .emp] := ⟨by kernel_rfl, by kernel_rfl, by kernel_rfl⟩
theorem sl33 : SlF Try.prog 33 3 1 (.int .i64 0) [.pv (.int .i64 0)] := ⟨by kernel_rfl, by kernel_rfl, by kernel_rfl⟩
theorem st39 : StrF Try.prog 39 #[⟨ "Chans", 37, 0, false, "", "", 0⟩, ⟨ "Graphs", 36, 1, false, "", "", 24⟩, ⟨ "Vars", 33, 2, false, "", "", 48⟩] [(0, 1), (1, 1), (2, 1)] (.agg #[(.slice none 0 0), (.slice none 0 0), (.slice none 0 0)]) [.emp, .emp, .emp] := ⟨by kernel_rfl, by kernel_rfl, by kernel_rfl, by kernel_rfl⟩
theorem z39 : (Try.prog.info? 39).bind (·.zero) = some (.agg #[(.slice none 0 0), (.slice none 0 0), (.slice none 0 0)]) := by kernel_rfl
theorem ty39 : Ty Try.prog 39 true 3 := ⟨by kernel_rfl, by kernel_rfl⟩
theorem z75 : (Try.prog.info? 75).bind (·.zero) = some (.agg #[(.int .i64 0), (.int .i64 0), (.slice none 0 0)]) := by kernel_rfl
theorem z53 : (Try.prog.info? 53).bind (·.zero) = some (.agg #[(.int .i64 0), (.int .i64 0)]) := by kernel_rfl
theorem st53 : StrF Try.prog 53 #[⟨ "Lo", 3, 0, false, "", "", 0⟩, ⟨ "Hi", 3, 1, false, "", "", 8⟩] [(0, 1), (1, 1)] (.agg #[(.int .i64 0), (.int .i64 0)]) [.pv (.int .i64 0), .pv (.int .i64 0)] := ⟨by kernel_rfl, by kernel_rfl, by kernel_rfl, by kernel_rfl⟩
theorem ty53 : Ty Try.prog 53 true 2 := ⟨by kernel_rfl, by kernel_rfl⟩
theorem f53_0 : FieldF Try.prog 53 0 0 3 := ⟨by kernel_rfl⟩
theorem ty3 : Ty Try.prog 3 false 1 := ⟨by kernel_rfl, by kernel_rfl⟩
theorem f53_1 : FieldF Try.prog 53 1 1 3 := ⟨by kernel_rfl⟩
theorem st75 : StrF Try.prog 75 #[⟨ "Len", 53, 0, false, "", "", 0⟩, ⟨ "Vals", 40, 2, false, "", "", 16⟩] [(0, 2), (2, 1)] (.agg #[(.int .i64 0), (.int .i64 0), (.slice none 0 0)]) [.pv (.int .i64 0), .pv (.int .i64 0), .emp] := ⟨by kernel_rfl, by kernel_rfl, by kernel_rfl, by kernel_rfl⟩
theorem ty75 : Ty Try.prog 75 true 3 := ⟨by kernel_rfl, by kernel_rfl⟩
theorem f73_4 : FieldF Try.prog 73 4 4 3 := ⟨by kernel_rfl⟩
theorem f75_1 : FieldF Try.prog 75 1 2 40 := ⟨by kernel_rfl⟩
theorem ty40 : Ty Try.prog 40 false 1 := ⟨by kernel_rfl, by kernel_rfl⟩
theorem sl40 : SlF Try.prog 40 53 2 (.agg #[(.int .i64 0), (.int .i64 0)]) [.pv (.int .i64 0), .pv (.int .i64 0)] := ⟨by kernel_rfl, by kernel_rfl, by kernel_rfl⟩
theorem u40 : Try.prog.underlying 40 = some (.slice 53) := by kernel_rfl
theorem te53 : TyE Try.prog 53 2 16 := ⟨by kernel_rfl⟩
theorem sl58 : SlF Try.prog 58 75 3 (.agg #[(.int .i64 0), (.int .i64 0), (.slice none 0 0)]) [.pv (.int .i64 0), .pv (.int .i64 0), .emp] := ⟨by kernel_rfl, by kernel_rfl, by kernel_rfl⟩
theorem sl59 : SlF Try.prog 59 4 1 (.bool false) [.pv (.bool false)] := ⟨by kernel_rfl, by kernel_rfl, by kernel_rfl⟩
theorem f39_0 : FieldF Try.prog 39 0 0 37 := ⟨by kernel_rfl⟩
theorem ty37 : Ty Try.prog 37 false 1 := ⟨by kernel_rfl, by kernel_rfl⟩
theorem u37 : Try.prog.underlying 37 = some (.slice 73) := by kernel_rfl
theorem u59 : Try.prog.underlying 59 = some (.slice 4) := by kernel_rfl
theorem u111 : Try.prog.underlying 111 = some (.int .u64) := by kernel_rfl
theorem te4 : TyE Try.prog 4 1 1 := ⟨by kernel_rfl⟩
theorem z4 : (Try.prog.info? 4).bind (·.zero) = some (.bool false) := by kernel_rfl
theorem s1_4 : (Try.prog.info? 4).map (·.size) = some 1 := by kernel_rfl
theorem f39_1 : FieldF Try.prog 39 1 1 36 := ⟨by kernel_rfl⟩
theorem ty36 : Ty Try.prog 36 false 1 := ⟨by kernel_rfl, by kernel_rfl⟩
theorem u36 : Try.prog.underlying 36 = some (.slice 35) := by kernel_rfl
theorem ty35 : Ty Try.prog 35 true 3 := ⟨by kernel_rfl, by kernel_rfl⟩
theorem z35 : (Try.prog.info? 35).bind (·.zero) = some (.agg #[(.int .i64 0), (.slice none 0 0), (.slice none 0 0)]) := by kernel_rfl
theorem f35_1 : FieldF Try.prog 35 1 1 32 := ⟨by kernel_rfl⟩
theorem ty32 : Ty Try.prog 32 false 1 := ⟨by kernel_rfl, by kernel_rfl⟩
theorem u32 : Try.prog.underlying 32 = some (.slice 31) := by kernel_rfl
theorem ty31 : Ty Try.prog 31 true 19 := ⟨by kernel_rfl, by kernel_rfl⟩
theorem z31 : (Try.prog.info? 31).bind (·.zero) = some (.agg #[(.int .i64 0), (.int .i64 0), (.int .i64 0), (.int .i64 0), (.int .i64 0), (.int .i64 0), (.int .i64 0), (.int .i64 0), (.int .i64 0), (.slice none 0 0), (.int .i64 0), (.int .i64 0), (.int .i64 0), (.int .i64 0), (.slice none 0 0), (.int .i64 0), (.int .i64 0), (.int .i64 0), (.slice none 0 0)]) := by kernel_rfl
theorem f31_2 : FieldF Try.prog 31 2 2 3 := ⟨by kernel_rfl⟩
theorem f31_4 : FieldF Try.prog 31 4 4 3 := ⟨by kernel_rfl⟩
theorem ty4 : Ty Try.prog 4 false 1 := ⟨by kernel_rfl, by kernel_rfl⟩
theorem st61 : StrF Try.prog 61 #[⟨ "S", 39, 0, false, "", "", 0⟩, ⟨ "Elems", 58, 3, false, "", "", 72⟩, ⟨ "Deaf", 59, 4, false, "", "", 96⟩] [(0, 3), (3, 1), (4, 1)] (.agg #[(.slice none 0 0), (.slice none 0 0), (.slice none 0 0), (.slice none 0 0), (.slice none 0 0)]) [.emp, .emp, .emp, .emp, .emp] := ⟨by kernel_rfl, by kernel_rfl, by kernel_rfl, by kernel_rfl⟩
theorem z61 : (Try.prog.info? 61).bind (·.zero) = some (.agg #[(.slice none 0 0), (.slice none 0 0), (.slice none 0 0), (.slice none 0 0), (.slice none 0 0)]) := by kernel_rfl
theorem ty61 : Ty Try.prog 61 true 5 := ⟨by kernel_rfl, by kernel_rfl⟩
theorem z49 : (Try.prog.info? 49).bind (·.zero) = some (.agg #[(.bool false), (.slice none 0 0), (.int .i64 0), (.bool false), (.int .i64 0), (.int .i64 0), (.int .i64 0), (.int .i64 0), (.int .i64 0), (.int .i64 0), (.int .i64 0), (.int .i64 0), (.int .i64 0), (.int .i64 0), (.int .i64 0), (.int .i64 0), (.int .i64 0), (.int .i64 0), (.int .i64 0), (.int .i64 0), (.int .i64 0), (.int .i64 0), (.int .i64 0), (.int .i64 0), (.int .i64 0), (.int .i64 0), (.int .i64 0), (.int .i64 0), (.int .i64 0), (.int .i64 0), (.int .i64 0), (.int .i64 0), (.int .i64 0), (.int .i64 0), (.int .i64 0), (.int .i64 0), (.int .i64 0), (.int .i64 0), (.int .i64 0), (.int .i64 0), (.int .i64 0), (.int .i64 0), (.int .i64 0), (.int .i64 0), (.int .i64 0), (.int .i64 0), (.int .i64 0), (.int .i64 0), (.int .i64 0), (.int .i64 0), (.int .i64 0), (.int .i64 0), (.int .i64 0), (.slice none 0 0), (.slice none 0 0)]) := by kernel_rfl
theorem f39_2 : FieldF Try.prog 39 2 2 33 := ⟨by kernel_rfl⟩
theorem ty33 : Ty Try.prog 33 false 1 := ⟨by kernel_rfl, by kernel_rfl⟩
theorem u33 : Try.prog.underlying 33 = some (.slice 3) := by kernel_rfl
theorem z46 : (Try.prog.info? 46).bind (·.zero) = some (.agg #[(.bool false), (.slice none 0 0), (.int .i64 0), (.bool false), (.int .i64 0), (.int .i64 0), (.int .i64 0), (.int .i64 0), (.int .i64 0), (.int .i64 0), (.int .i64 0), (.int .i64 0), (.int .i64 0), (.int .i64 0), (.int .i64 0), (.int .i64 0), (.int .i64 0), (.int .i64 0), (.int .i64 0), (.int .i64 0), (.int .i64 0), (.int .i64 0), (.int .i64 0), (.int .i64 0), (.int .i64 0), (.int .i64 0), (.int .i64 0), (.int .i64 0), (.int .i64 0), (.int .i64 0), (.int .i64 0), (.int .i64 0), (.int .i64 0), (.int .i64 0), (.int .i64 0), (.int .i64 0), (.int .i64 0), (.int .i64 0), (.int .i64 0), (.int .i64 0), (.int .i64 0), (.int .i64 0), (.int .i64 0), (.int .i64 0), (.int .i64 0), (.int .i64 0), (.int .i64 0), (.int .i64 0), (.int .i64 0), (.int .i64 0), (.int .i64 0), (.int .i64 0), (.int .i64 0)]) := by kernel_rfl
theorem z44 : (Try.prog.info? 44).bind (·.zero) = some (.agg #[(.int .i64 0), (.bool false), (.int .i64 0), (.int .i64 0), (.int .i64 0), (.int .i64 0), (.int .i64 0), (.int .i64 0), (.int .i64 0), (.int .i64 0), (.int .i64 0), (.int .i64 0), (.int .i64 0), (.int .i64 0), (.int .i64 0), (.int .i64 0), (.int .i64 0), (.int .i64 0), (.int .i64 0), (.int .i64 0), (.int .i64 0), (.int .i64 0), (.int .i64 0), (.int .i64 0), (.int .i64 0), (.int .i64 0), (.int .i64 0), (.int .i64 0), (.int .i64 0), (.int .i64 0), (.int .i64 0), (.int .i64 0), (.int .i64 0), (.int .i64 0), (.int .i64 0), (.int .i64 0), (.int .i64 0), (.int .i64 0), (.int .i64 0), (.int .i64 0), (.int .i64 0), (.int .i64 0), (.int .i64 0), (.int .i64 0), (.int .i64 0), (.int .i64 0), (.int .i64 0), (.int .i64 0), (.int .i64 0), (.int .i64 0), (.int .i64 0)]) := by kernel_rfl
theorem st44 : StrF Try.prog 44 #[⟨ "N", 3, 0, false, "", "", 0⟩, ⟨ "None", 4, 1, false, "", "", 8⟩, ⟨ "D", 42, 2, false, "", "", 16⟩] [(0, 1), (1, 1), (2, 49)] (.agg #[(.int .i64 0), (.bool false), (.int .i64 0), (.int .i64 0), (.int .i64 0), (.int .i64 0), (.int .i64 0), (.int .i64 0), (.int .i64 0), (.int .i64 0), (.int .i64 0), (.int .i64 0), (.int .i64 0), (.int .i64 0), (.int .i64 0), (.int .i64 0), (.int .i64 0), (.int .i64 0), (.int .i64 0), (.int .i64 0), (.int .i64 0), (.int .i64 0), (.int .i64 0), (.int .i64 0), (.int .i64 0), (.int .i64 0), (.int .i64 0), (.int .i64 0), (.int .i64 0), (.int .i64 0), (.int .i64 0), (.int .i64 0), (.int .i64 0), (.int .i64 0), (.int .i64 0), (.int .i64 0), (.int .i64 0), (.int .i64 0), (.int .i64 0), (.int .i64 0), (.int .i64 0), (.int .i64 0), (.int .i64 0), (.int .i64 0), (.int .i64 0), (.int .i64 0), (.int .i64 0), (.int .i64 0), (.int .i64 0), (.int .i64 0), (.int .i64 0)]) [.pv (.int .i64 0), .pv (.bool false), .pv (.int .i64 0), .pv (.int .i64 0), .pv (.int .i64 0), .pv (.int .i64 0), .pv (.int .i64 0), .pv (.int .i64 0), .pv (.int .i64 0), .pv (.int .i64 0), .pv (.int .i64 0), .pv (.int .i64 0), .pv (.int .i64 0), .pv (.int .i64 0), .pv (.int .i64 0), .pv (.int .i64 0), .pv (.int .i64 0), .pv (.int .i64 0), .pv (.int .i64 0), .pv (.int .i64 0), .pv (.int .i64 0), .pv (.int .i64 0), .pv (.int .i64 0), .pv (.int .i64 0), .pv (.int .i64 0), .pv (.int .i64 0), .pv (.int .i64 0), .pv (.int .i64 0), .pv (.int .i64 0), .pv (.int .i64 0), .pv (.int .i64 0), .pv (.int .i64 0), .pv (.int .i64 0), .pv (.int .i64 0), .pv (.int .i64 0), .pv (.int .i64 0), .pv (.int .i64 0), .pv (.int .i64 0), .pv (.int .i64 0), .pv (.int .i64 0), .pv (.int .i64 0), .pv (.int .i64 0), .pv (.int .i64 0), .pv (.int .i64 0), .pv (.int .i64 0), .pv (.int .i64 0), .pv (.int .i64 0), .pv (.int .i64 0), .pv (.int .i64 0), .pv (.int .i64 0), .pv (.int .i64 0)] := ⟨by kernel_rfl, by kernel_rfl, by kernel_rfl, by kernel_rfl⟩
theorem ty44 : Ty Try.prog 44 true 51 := ⟨by kernel_rfl, by kernel_rfl⟩
theorem f44_1 : FieldF Try.prog 44 1 1 4 := ⟨by kernel_rfl⟩
theorem st46 : StrF Try.prog 46 #[⟨ "None", 4, 0, false, "", "", 0⟩, ⟨ "I", 40, 1, false, "", "", 8⟩, ⟨ "Z", 44, 2, false, "", "", 32⟩] [(0, 1), (1, 1), (2, 51)] (.agg #[(.bool false), (.slice none 0 0), (.int .i64 0), (.bool false), (.int .i64 0), (.int .i64 0), (.int .i64 0), (.int .i64 0), (.int .i64 0), (.int .i64 0), (.int .i64 0), (.int .i64 0), (.int .i64 0), (.int .i64 0), (.int .i64 0), (.int .i64 0), (.int .i64 0), (.int .i64 0), (.int .i64 0), (.int .i64 0), (.int .i64 0), (.int .i64 0), (.int .i64 0), (.int .i64 0), (.int .i64 0), (.int .i64 0), (.int .i64 0), (.int .i64 0), (.int .i64 0), (.int .i64 0), (.int .i64 0), (.int .i64 0), (.int .i64 0), (.int .i64 0), (.int .i64 0), (.int .i64 0), (.int .i64 0), (.int .i64 0), (.int .i64 0), (.int .i64 0), (.int .i64 0), (.int .i64 0), (.int .i64 0), (.int .i64 0), (.int .i64 0), (.int .i64 0), (.int .i64 0), (.int .i64 0), (.int .i64 0), (.int .i64 0), (.int .i64 0), (.int .i64 0), (.int .i64 0)]) [.pv (.bool false), .emp, .pv (.int .i64 0), .pv (.bool false), .pv (.int .i64 0), .pv (.int .i64 0), .pv (.int .i64 0), .pv (.int .i64 0), .pv (.int .i64 0), .pv (.int .i64 0), .pv (.int .i64 0), .pv (.int .i64 0), .pv (.int .i64 0), .pv (.int .i64 0), .pv (.int .i64 0), .pv (.int .i64 0), .pv (.int .i64 0), .pv (.int .i64 0), .pv (.int .i64 0), .pv (.int .i64 0), .pv (.int .i64 0), .pv (.int .i64 0), .pv (.int .i64 0), .pv (.int .i64 0), .pv (.int .i64 0), .pv (.int .i64 0), .pv (.int .i64 0), .pv (.int .i64 0), .pv (.int .i64 0), .pv (.int .i64 0), .pv (.int .i64 0), .pv (.int .i64 0), .pv (.int .i64 0), .pv (.int .i64 0), .pv (.int .i64 0), .pv (.int .i64 0), .pv (.int .i64 0), .pv (.int .i64 0), .pv (.int .i64 0), .pv (.int .i64 0), .pv (.int .i64 0), .pv (.int .i64 0), .pv (.int .i64 0), .pv (.int .i64 0), .pv (.int .i64 0), .pv (.int .i64 0), .pv (.int .i64 0), .pv (.int .i64 0), .pv (.int .i64 0), .pv (.int .i64 0), .pv (.int .i64 0), .pv (.int .i64 0), .pv (.int .i64 0)] := ⟨by kernel_rfl, by kernel_rfl, by kernel_rfl, by kernel_rfl⟩
theorem ty46 : Ty Try.prog 46 true 53 := ⟨by kernel_rfl, by kernel_rfl⟩
theorem f44_0 : FieldF Try.prog 44 0 0 3 := ⟨by kernel_rfl⟩
theorem f46_1 : FieldF Try.prog 46 1 1 40 := ⟨by kernel_rfl⟩
theorem f44_2 : FieldF Try.prog 44 2 2 42 := ⟨by kernel_rfl⟩
theorem ty42 : Ty Try.prog 42 true 49 := ⟨by kernel_rfl, by kernel_rfl⟩
theorem ty41 : Ty Try.prog 41 true 7 := ⟨by kernel_rfl, by kernel_rfl⟩
theorem u42 : Try.prog.underlying 42 = some (.array 7 41) := by kernel_rfl
theorem u41 : Try.prog.underlying 41 = some (.array 7 3) := by kernel_rfl
theorem st49 : StrF Try.prog 49 #[⟨ "N", 46, 0, false, "", "", 0⟩, ⟨ "Counts", 40, 53, false, "", "", 440⟩, ⟨ "Rules", 47, 54, false, "", "", 464⟩] [(0, 53), (53, 1), (54, 1)] (.agg #[(.bool false), (.slice none 0 0), (.int .i64 0), (.bool false), (.int .i64 0), (.int .i64 0), (.int .i64 0), (.int .i64 0), (.int .i64 0), (.int .i64 0), (.int .i64 0), (.int .i64 0), (.int .i64 0), (.int .i64 0), (.int .i64 0), (.int .i64 0), (.int .i64 0), (.int .i64 0), (.int .i64 0), (.int .i64 0), (.int .i64 0), (.int .i64 0), (.int .i64 0), (.int .i64 0), (.int .i64 0), (.int .i64 0), (.int .i64 0), (.int .i64 0), (.int .i64 0), (.int .i64 0), (.int .i64 0), (.int .i64 0), (.int .i64 0), (.int .i64 0), (.int .i64 0), (.int .i64 0), (.int .i64 0), (.int .i64 0), (.int .i64 0), (.int .i64 0), (.int .i64 0), (.int .i64 0), (.int .i64 0), (.int .i64 0), (.int .i64 0), (.int .i64 0), (.int .i64 0), (.int .i64 0), (.int .i64 0), (.int .i64 0), (.int .i64 0), (.int .i64 0), (.int .i64 0), (.slice none 0 0), (.slice none 0 0)]) [.pv (.bool false), .emp, .pv (.int .i64 0), .pv (.bool false), .pv (.int .i64 0), .pv (.int .i64 0), .pv (.int .i64 0), .pv (.int .i64 0), .pv (.int .i64 0), .pv (.int .i64 0), .pv (.int .i64 0), .pv (.int .i64 0), .pv (.int .i64 0), .pv (.int .i64 0), .pv (.int .i64 0), .pv (.int .i64 0), .pv (.int .i64 0), .pv (.int .i64 0), .pv (.int .i64 0), .pv (.int .i64 0), .pv (.int .i64 0), .pv (.int .i64 0), .pv (.int .i64 0), .pv (.int .i64 0), .pv (.int .i64 0), .pv (.int .i64 0), .pv (.int .i64 0), .pv (.int .i64 0), .pv (.int .i64 0), .pv (.int .i64 0), .pv (.int .i64 0), .pv (.int .i64 0), .pv (.int .i64 0), .pv (.int .i64 0), .pv (.int .i64 0), .pv (.int .i64 0), .pv (.int .i64 0), .pv (.int .i64 0), .pv (.int .i64 0), .pv (.int .i64 0), .pv (.int .i64 0), .pv (.int .i64 0), .pv (.int .i64 0), .pv (.int .i64 0), .pv (.int .i64 0), .pv (.int .i64 0), .pv (.int .i64 0), .pv (.int .i64 0), .pv (.int .i64 0), .pv (.int .i64 0), .pv (.int .i64 0), .pv (.int .i64 0), .pv (.int .i64 0), .emp, .emp] := ⟨by kernel_rfl, by kernel_rfl, by kernel_rfl, by kernel_rfl⟩
theorem ty49 : Ty Try.prog 49 true 55 := ⟨by kernel_rfl, by kernel_rfl⟩
theorem f49_1 : FieldF Try.prog 49 1 53 40 := ⟨by kernel_rfl⟩
theorem f49_2 : FieldF Try.prog 49 2 54 47 := ⟨by kernel_rfl⟩
theorem ty47 : Ty Try.prog 47 false 1 := ⟨by kernel_rfl, by kernel_rfl⟩
theorem sl47 : SlF Try.prog 47 85 1 (.int .u8 0) [.pv (.int .u8 0)] := ⟨by kernel_rfl, by kernel_rfl, by kernel_rfl⟩
theorem u47 : Try.prog.underlying 47 = some (.slice 85) := by kernel_rfl
theorem te85 : TyE Try.prog 85 1 1 := ⟨by kernel_rfl⟩
theorem z55 : (Try.prog.info? 55).bind (·.zero) = some (.agg #[(.int .i64 0), (.int .i64 0), (.int .i64 0), (.int .i64 0)]) := by kernel_rfl
theorem st55 : StrF Try.prog 55 #[⟨ "Chan", 3, 0, false, "", "", 0⟩, ⟨ "Tag", 3, 1, false, "", "", 8⟩, ⟨ "Vals", 53, 2, false, "", "", 16⟩] [(0, 1), (1, 1), (2, 2)] (.agg #[(.int .i64 0), (.int .i64 0), (.int .i64 0), (.int .i64 0)]) [.pv (.int .i64 0), .pv (.int .i64 0), .pv (.int .i64 0), .pv (.int .i64 0)] := ⟨by kernel_rfl, by kernel_rfl, by kernel_rfl, by kernel_rfl⟩
theorem ty55 : Ty Try.prog 55 true 4 := ⟨by kernel_rfl, by kernel_rfl⟩
theorem f61_0 : FieldF Try.prog 61 0 0 39 := ⟨by kernel_rfl⟩
theorem f49_0 : FieldF Try.prog 49 0 0 46 := ⟨by kernel_rfl⟩
theorem f46_0 : FieldF Try.prog 46 0 0 4 := ⟨by kernel_rfl⟩
theorem f31_0 : FieldF Try.prog 31 0 0 3 := ⟨by kernel_rfl⟩
theorem te3 : TyE Try.prog 3 1 8 := ⟨by kernel_rfl⟩
theorem st94 : StrF Try.prog 94 #[⟨ "w", 61, 0, false, "", "jetsam/trans", 0⟩, ⟨ "proc", 3, 5, false, "", "jetsam/trans", 120⟩, ⟨ "out", 33, 6, false, "", "jetsam/trans", 128⟩, ⟨ "at", 3, 7, false, "", "jetsam/trans", 152⟩, ⟨ "e", 31, 8, false, "", "jetsam/trans", 160⟩, ⟨ "a", 49, 27, false, "", "jetsam/trans", 360⟩, ⟨ "sent", 55, 82, false, "", "jetsam/trans", 848⟩, ⟨ "errors", 92, 86, false, "", "jetsam/trans", 880⟩] [(0, 5), (5, 1), (6, 1), (7, 1), (8, 19), (27, 55), (82, 4), (86, 7)] (.agg #[(.slice none 0 0), (.slice none 0 0), (.slice none 0 0), (.slice none 0 0), (.slice none 0 0), (.int .i64 0), (.slice none 0 0), (.int .i64 0), (.int .i64 0), (.int .i64 0), (.int .i64 0), (.int .i64 0), (.int .i64 0), (.int .i64 0), (.int .i64 0), (.int .i64 0), (.int .i64 0), (.slice none 0 0), (.int .i64 0), (.int .i64 0), (.int .i64 0), (.int .i64 0), (.slice none 0 0), (.int .i64 0), (.int .i64 0), (.int .i64 0), (.slice none 0 0), (.bool false), (.slice none 0 0), (.int .i64 0), (.bool false), (.int .i64 0), (.int .i64 0), (.int .i64 0), (.int .i64 0), (.int .i64 0), (.int .i64 0), (.int .i64 0), (.int .i64 0), (.int .i64 0), (.int .i64 0), (.int .i64 0), (.int .i64 0), (.int .i64 0), (.int .i64 0), (.int .i64 0), (.int .i64 0), (.int .i64 0), (.int .i64 0), (.int .i64 0), (.int .i64 0), (.int .i64 0), (.int .i64 0), (.int .i64 0), (.int .i64 0), (.int .i64 0), (.int .i64 0), (.int .i64 0), (.int .i64 0), (.int .i64 0), (.int .i64 0), (.int .i64 0), (.int .i64 0), (.int .i64 0), (.int .i64 0), (.int .i64 0), (.int .i64 0), (.int .i64 0), (.int .i64 0), (.int .i64 0), (.int .i64 0), (.int .i64 0), (.int .i64 0), (.int .i64 0), (.int .i64 0), (.int .i64 0), (.int .i64 0), (.int .i64 0), (.int .i64 0), (.int .i64 0), (.slice none 0 0), (.slice none 0 0), (.int .i64 0), (.int .i64 0), (.int .i64 0), (.int .i64 0), (.bool false), (.bool false), (.bool false), (.bool false), (.bool false), (.bool false), (.bool false)]) [.emp, .emp, .emp, .emp, .emp, .pv (.int .i64 0), .emp, .pv (.int .i64 0), .pv (.int .i64 0), .pv (.int .i64 0), .pv (.int .i64 0), .pv (.int .i64 0), .pv (.int .i64 0), .pv (.int .i64 0), .pv (.int .i64 0), .pv (.int .i64 0), .pv (.int .i64 0), .emp, .pv (.int .i64 0), .pv (.int .i64 0), .pv (.int .i64 0), .pv (.int .i64 0), .emp, .pv (.int .i64 0), .pv (.int .i64 0), .pv (.int .i64 0), .emp, .pv (.bool false), .emp, .pv (.int .i64 0), .pv (.bool false), .pv (.int .i64 0), .pv (.int .i64 0), .pv (.int .i64 0), .pv (.int .i64 0), .pv (.int .i64 0), .pv (.int .i64 0), .pv (.int .i64 0), .pv (.int .i64 0), .pv (.int .i64 0), .pv (.int .i64 0), .pv (.int .i64 0), .pv (.int .i64 0), .pv (.int .i64 0), .pv (.int .i64 0), .pv (.int .i64 0), .pv (.int .i64 0), .pv (.int .i64 0), .pv (.int .i64 0), .pv (.int .i64 0), .pv (.int .i64 0), .pv (.int .i64 0), .pv (.int .i64 0), .pv (.int .i64 0), .pv (.int .i64 0), .pv (.int .i64 0), .pv (.int .i64 0), .pv (.int .i64 0), .pv (.int .i64 0), .pv (.int .i64 0), .pv (.int .i64 0), .pv (.int .i64 0), .pv (.int .i64 0), .pv (.int .i64 0), .pv (.int .i64 0), .pv (.int .i64 0), .pv (.int .i64 0), .pv (.int .i64 0), .pv (.int .i64 0), .pv (.int .i64 0), .pv (.int .i64 0), .pv (.int .i64 0), .pv (.int .i64 0), .pv (.int .i64 0), .pv (.int .i64 0), .pv (.int .i64 0), .pv (.int .i64 0), .pv (.int .i64 0), .pv (.int .i64 0), .pv (.int .i64 0), .emp, .emp, .pv (.int .i64 0), .pv (.int .i64 0), .pv (.int .i64 0), .pv (.int .i64 0), .pv (.bool false), .pv (.bool false), .pv (.bool false), .pv (.bool false), .pv (.bool false), .pv (.bool false), .pv (.bool false)] := ⟨by kernel_rfl, by kernel_rfl, by kernel_rfl, by kernel_rfl⟩
theorem f94_4 : FieldF Try.prog 94 4 8 31 := ⟨by kernel_rfl⟩
theorem f94_5 : FieldF Try.prog 94 5 27 49 := ⟨by kernel_rfl⟩
theorem f31_3 : FieldF Try.prog 31 3 3 3 := ⟨by kernel_rfl⟩
theorem f31_6 : FieldF Try.prog 31 6 6 25 := ⟨by kernel_rfl⟩
theorem ty25 : Ty Try.prog 25 true 4 := ⟨by kernel_rfl, by kernel_rfl⟩
theorem z120 : (Try.prog.info? 120).bind (·.zero) = some (.agg #[(.bool false), (.bool false)]) := by kernel_rfl
theorem f25_0 : FieldF Try.prog 25 0 0 3 := ⟨by kernel_rfl⟩
theorem f25_1 : FieldF Try.prog 25 1 1 3 := ⟨by kernel_rfl⟩
theorem st120 : StrF Try.prog 120 #[⟨ "Overflow", 4, 0, false, "", "", 0⟩, ⟨ "DivZero", 4, 1, false, "", "", 1⟩] [(0, 1), (1, 1)] (.agg #[(.bool false), (.bool false)]) [.pv (.bool false), .pv (.bool false)] := ⟨by kernel_rfl, by kernel_rfl, by kernel_rfl, by kernel_rfl⟩
theorem ty120 : Ty Try.prog 120 true 2 := ⟨by kernel_rfl, by kernel_rfl⟩
theorem f25_2 : FieldF Try.prog 25 2 2 3 := ⟨by kernel_rfl⟩
theorem f25_3 : FieldF Try.prog 25 3 3 23 := ⟨by kernel_rfl⟩
theorem ty23 : Ty Try.prog 23 false 1 := ⟨by kernel_rfl, by kernel_rfl⟩
theorem u23 : Try.prog.underlying 23 = some (.slice 25) := by kernel_rfl
theorem sp53 : Try.prog.stoodInHeld 53 = false := by kernel_rfl
theorem eg53 : Try.prog.eqGuardType Try.prog.depth 53 = false := by kernel_rfl
theorem u53 : Try.prog.underlying 53 = some (.struct #[⟨ "Lo", 3, 0, false, "", "", 0⟩, ⟨ "Hi", 3, 1, false, "", "", 8⟩]) := by kernel_rfl
theorem f120_0 : FieldF Try.prog 120 0 0 4 := ⟨by kernel_rfl⟩
theorem f120_1 : FieldF Try.prog 120 1 1 4 := ⟨by kernel_rfl⟩
theorem z146 : (Try.prog.info? 146).bind (·.zero) = some (.agg #[(.int .i64 0), (.int .i64 0)]) := by kernel_rfl
theorem st146 : StrF Try.prog 146 #[⟨ "v", 3, 0, false, "", "jetsam/eval", 0⟩, ⟨ "by", 3, 1, false, "", "jetsam/eval", 8⟩] [(0, 1), (1, 1)] (.agg #[(.int .i64 0), (.int .i64 0)]) [.pv (.int .i64 0), .pv (.int .i64 0)] := ⟨by kernel_rfl, by kernel_rfl, by kernel_rfl, by kernel_rfl⟩
theorem ty146 : Ty Try.prog 146 true 2 := ⟨by kernel_rfl, by kernel_rfl⟩
theorem f146_1 : FieldF Try.prog 146 1 1 3 := ⟨by kernel_rfl⟩
theorem f146_0 : FieldF Try.prog 146 0 0 3 := ⟨by kernel_rfl⟩
theorem f46_2 : FieldF Try.prog 46 2 2 44 := ⟨by kernel_rfl⟩
theorem f94_7 : FieldF Try.prog 94 7 86 92 := ⟨by kernel_rfl⟩
theorem ty92 : Ty Try.prog 92 true 7 := ⟨by kernel_rfl, by kernel_rfl⟩
theorem u92 : Try.prog.underlying 92 = some (.array 7 4) := by kernel_rfl
theorem f94_0 : FieldF Try.prog 94 0 0 61 := ⟨by kernel_rfl⟩
theorem f73_0 : FieldF Try.prog 73 0 0 3 := ⟨by kernel_rfl⟩
theorem f61_2 : FieldF Try.prog 61 2 4 59 := ⟨by kernel_rfl⟩
theorem ty59 : Ty Try.prog 59 false 1 := ⟨by kernel_rfl, by kernel_rfl⟩
theorem f73_1 : FieldF Try.prog 73 1 1 3 := ⟨by kernel_rfl⟩
theorem f94_1 : FieldF Try.prog 94 1 5 3 := ⟨by kernel_rfl⟩
theorem ty85 : Ty Try.prog 85 false 1 := ⟨by kernel_rfl, by kernel_rfl⟩
theorem f31_5 : FieldF Try.prog 31 5 5 3 := ⟨by kernel_rfl⟩
theorem f73_5 : FieldF Try.prog 73 5 5 71 := ⟨by kernel_rfl⟩
theorem ty71 : Ty Try.prog 71 false 1 := ⟨by kernel_rfl, by kernel_rfl⟩
theorem u71 : Try.prog.underlying 71 = some (.slice 33) := by kernel_rfl
theorem f94_6 : FieldF Try.prog 94 6 82 55 := ⟨by kernel_rfl⟩
theorem f55_0 : FieldF Try.prog 55 0 0 3 := ⟨by kernel_rfl⟩
theorem f55_2 : FieldF Try.prog 55 2 2 53 := ⟨by kernel_rfl⟩
def tb : Tb := ⟨[(3, false, 1), (4, false, 1), (23, false, 1), (25, true, 4), (31, true, 19), (32, false, 1), (33, false, 1), (35, true, 3), (36, false, 1), (37, false, 1), (39, true, 3), (40, false, 1), (41, true, 7), (42, true, 49), (44, true, 51), (46, true, 53), (47, false, 1), (49, true, 55), (53, true, 2), (55, true, 4), (59, false, 1), (61, true, 5), (71, false, 1), (73, true, 6), (75, true, 3), (85, false, 1), (92, true, 7), (120, true, 2), (146, true, 2)], [((25, 0), 0, 3), ((25, 1), 1, 3), ((25, 2), 2, 3), ((25, 3), 3, 23), ((31, 0), 0, 3), ((31, 2), 2, 3), ((31, 3), 3, 3), ((31, 4), 4, 3), ((31, 5), 5, 3), ((31, 6), 6, 25), ((35, 1), 1, 32), ((39, 0), 0, 37), ((39, 1), 1, 36), ((39, 2), 2, 33), ((44, 0), 0, 3), ((44, 1), 1, 4), ((44, 2), 2, 42), ((46, 0), 0, 4), ((46, 1), 1, 40), ((46, 2), 2, 44), ((49, 0), 0, 46), ((49, 1), 53, 40), ((49, 2), 54, 47), ((53, 0), 0, 3), ((53, 1), 1, 3), ((55, 0), 0, 3), ((55, 2), 2, 53), ((61, 0), 0, 39), ((61, 2), 4, 59), ((73, 0), 0, 3), ((73, 1), 1, 3), ((73, 4), 4, 3), ((73, 5), 5, 71), ((75, 1), 2, 40), ((94, 0), 0, 61), ((94, 1), 5, 3), ((94, 4), 8, 31), ((94, 5), 27, 49), ((94, 6), 82, 55), ((94, 7), 86, 92), ((120, 0), 0, 4), ((120, 1), 1, 4), ((146, 0), 0, 3), ((146, 1), 1, 3)], [(3, .i64), (27, .u64), (111, .u64)]⟩
theorem tbok : TbOk Try.prog tb := chkTb_ok (by kernel_rfl)

end Go.Proofs.Ytbebnddalipfhaa.Abs

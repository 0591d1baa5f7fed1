/- Gw: the functions are these. -/
import Derived.Test.YtokjbpmjdcbogaaGreatDoorGwW0
namespace Go.Proofs.YtokjbpmjdcbogaaGreatDoor.Abs
open Go Go.RowKit
set_option linter.unusedVariables false
set_option maxRecDepth 100000
set_option maxHeartbeats 4000000
variable {X : EV}
theorem m_r01_sign {a0 : ByteArray} {a1 : Int} {r : Int} (h : r01_sign a0 a1 = some r) : Cv Tryz.prog (GX X) 65 [xS a0, xI a1] (r_r01_sign r) := by
  refine Cs.toV (?_ : Cs Tryz.prog (GX X) 65 [xS a0, xI a1] [] (r_r01_sign r) (o_r01_sign r)) (by kernel_rfl)
  refine fnT (cx := cx X) Tryz.f65 Tryz.call65 Tryz.func65 (by kernel_rfl) ?_
  unfold r01_sign at h
  refine adv (ok X) 7 [] pT (by kernel_rfl) ?_
  refine lp (ok X) (r01_sign_l1 a0 a1) (fun (x1 : Int) => ⟨44, 0, [(0, [xS a0]), (1, [xI a1]), (5, [xL (List.map e_str [(ByteArray.mk #[61, 61]), (ByteArray.mk #[33, 61]), (ByteArray.mk #[60, 61]), (ByteArray.mk #[62, 61])])]), (6, [xI x1])], []⟩) (fun (j1 : Unit) => ⟨44, 0, [(0, [xS a0]), (1, [xI a1])], []⟩) R_r01_sign 0 (fun _ => ⟨_, _, _, _, rfl⟩) h (by kernel_rfl) (fun x1 o h => ?_) (fun r' h => ?_) (fun j1 h => ?_)
  · unfold r01_sign_l1 at h
    rcases iteE h with ⟨k1, h⟩ | ⟨k1, h⟩
    · refine adv (ok X) 8 [.b true] (pA k1 pT) (by kernel_rfl) ?_
      refine jn (ok X) 1 (fun (j2 : Bool) => ⟨44, 0, [(0, [xS a0]), (1, [xI a1]), (5, [xL (List.map e_str [(ByteArray.mk #[61, 61]), (ByteArray.mk #[33, 61]), (ByteArray.mk #[60, 61]), (ByteArray.mk #[62, 61])])]), (6, [xI x1]), (30, [xB j2])], []⟩) h (fun j2 h => ?_) (fun j2 h => ?_)
      · rcases iteE h with ⟨k2, h⟩ | ⟨k2, h⟩
        · obtain ⟨v1, k3, h⟩ := bindE h
          obtain ⟨v2, k4, h⟩ := bindE h
          obtain rfl := retE h
          exact fin (ok X) 1 [.o [0, 1, 2, 3, 4, 5, 6, 7, 8, 9, 10, 11, 12, 13, 14, 15, 16], .b true, .b true, .b true, .b true, .b true, .x [xS v1], .b true, .b true, .b true, .e [.str v2], .b true, .b true, .b true] (pA k2 (pA k2 (pA k2 (pA k2 (pA k2 (pA k3 (pA k2 (pA k2 (pA k2 (pA (ixm e_str k4) (pA k2 (pA k2 (pA k2 pT))))))))))))) (by kernel_rfl)
        · obtain rfl := retE h
          exact fin (ok X) 1 [.o [0, 1, 2, 3, 4, 5, 6, 7, 8, 9, 10, 11, 12, 13, 14, 15, 16], .b false, .b false, .b false, .b false, .b false, .b false, .b false, .b false, .b false, .b false, .b false] (pA k2 (pA k2 (pA k2 (pA k2 (pA k2 (pA k2 (pA k2 (pA k2 (pA k2 (pA k2 (pA k2 pT))))))))))) (by kernel_rfl)
      · rcases iteE h with ⟨k5, h⟩ | ⟨k5, h⟩
        · obtain rfl := retE h
          exact fin (ok X) 4 [.b true] (pA k5 pT) (by kernel_rfl)
        · obtain rfl := retE h
          exact fin (ok X) 4 [.b false] (pA k5 pT) (by kernel_rfl)
    · obtain rfl := retE h
      exact fin (ok X) 5 [.b false] (pA k1 pT) (by kernel_rfl)
  · obtain rfl := retE h
    kernel_rfl
  · refine adv (ok X) 5 [] pT (by kernel_rfl) ?_
    refine lp (ok X) (r01_sign_l3 a0 a1) (fun (x3 : Int) => ⟨44, 0, [(0, [xS a0]), (1, [xI a1]), (7, [xS (ByteArray.mk #[123, 125, 40, 41, 59, 44, 46, 61, 60, 62, 43, 45, 42, 47, 37])]), (8, [xI x3])], []⟩) (fun (j3 : Unit) => ⟨44, 0, [], []⟩) R_r01_sign 0 (fun _ => ⟨_, _, _, _, rfl⟩) h (by kernel_rfl) (fun x3 o h => ?_) (fun r' h => ?_) (fun j3 h => ?_)
    · unfold r01_sign_l3 at h
      rcases iteE h with ⟨k6, h⟩ | ⟨k6, h⟩
      · obtain ⟨v3, k7, h⟩ := bindE h
        obtain ⟨v4, k8, h⟩ := bindE h
        refine adv (ok X) 9 [.b true, .o [0, 1, 2, 3, 4, 5, 6], .i v3, .i v4] (pA k6 (pA k7 (pA k8 pT))) (by kernel_rfl) ?_
        rcases iteE h with ⟨k9, h⟩ | ⟨k9, h⟩
        · obtain rfl := retE h
          exact fin (ok X) 4 [.b true] (pA k9 pT) (by kernel_rfl)
        · obtain rfl := retE h
          exact fin (ok X) 4 [.b false] (pA k9 pT) (by kernel_rfl)
      · obtain rfl := retE h
        exact fin (ok X) 5 [.b false] (pA k6 pT) (by kernel_rfl)
    · obtain rfl := retE h
      kernel_rfl
    · obtain rfl := retE h
      exact fin (ok X) 3 [] pT (by kernel_rfl)

theorem m_r01_Lex {a0 : ByteArray} {r : ((List r01_Token) × Int × Int)} (h : r01_Lex a0 = some r) : Cv Tryz.prog (GX X) 25 [xS a0] (r_r01_Lex r) := by
  refine Cs.toV (?_ : Cs Tryz.prog (GX X) 25 [xS a0] [] (r_r01_Lex r) (o_r01_Lex r)) (by kernel_rfl)
  refine fnT (cx := cx X) Tryz.f25 Tryz.call25 Tryz.func25 (by kernel_rfl) ?_
  unfold r01_Lex at h
  refine adv (ok X) 7 [] pT (by kernel_rfl) ?_
  refine lp (ok X) (r01_Lex_l1 a0) (fun (x1 : (Int × (List r01_Token))) => ⟨153, 0, [(0, [xS a0]), (5, [xR 0]), (6, [xI x1.1])], [oR true 146 4 (List.map e_r01_Token x1.2)]⟩) (fun (j1 : (List r01_Token)) => ⟨153, 0, [(0, [xS a0]), (5, [xR 0])], [oR true 146 4 (List.map e_r01_Token j1)]⟩) R_r01_Lex (0, []) (fun _ => ⟨_, _, _, _, rfl⟩) h (by kernel_rfl) (fun x1 o h => ?_) (fun r' h => ?_) (fun j1 h => ?_)
  · unfold r01_Lex_l1 at h
    rcases iteE h with ⟨k1, h⟩ | ⟨k1, h⟩
    · obtain ⟨v1, k2, h⟩ := bindE h
      refine adv (ok X) 10 [.b true, .i v1] (pA k1 (pA k2 pT)) (by kernel_rfl) ?_
      refine jn (ok X) 1 (fun (j2 : Bool) => ⟨153, 0, [(0, [xS a0]), (5, [xR 0]), (6, [xI x1.1]), (7, [.c (.pv (.int .u8 v1))]), (24, [xB j2])], [oR true 146 4 (List.map e_r01_Token x1.2)]⟩) h (fun j2 h => ?_) (fun j2 h => ?_)
      · rcases iteE h with ⟨k3, h⟩ | ⟨k3, h⟩
        · obtain rfl := retE h
          exact fin (ok X) 1 [.b true, .b true, .b true] (pA k3 (pA k3 (pA k3 pT))) (by kernel_rfl)
        · obtain rfl := retE h
          exact fin (ok X) 1 [.b false, .b false, .b false] (pA k3 (pA k3 (pA k3 pT))) (by kernel_rfl)
      · rcases iteE h with ⟨k4, h⟩ | ⟨k4, h⟩
        · obtain rfl := retE h
          exact fin (ok X) 4 [.b true] (pA k4 pT) (by kernel_rfl)
        · refine adv (ok X) 5 [.b false] (pA k4 pT) (by kernel_rfl) ?_
          refine lp (ok X) (r01_Lex_l3 a0 v1) (fun (x3 : Int) => ⟨153, 0, [(0, [xS a0]), (5, [xR 0]), (6, [xI x1.1]), (7, [.c (.pv (.int .u8 v1))]), (8, [xI x3])], [oR true 146 4 (List.map e_r01_Token x1.2)]⟩) (fun (j3 : Int) => ⟨153, 0, [(0, [xS a0]), (5, [xR 0]), (6, [xI x1.1]), (7, [.c (.pv (.int .u8 v1))]), (8, [xI j3])], [oR true 146 4 (List.map e_r01_Token x1.2)]⟩) R_r01_Lex x1.1 (fun _ => ⟨_, _, _, _, rfl⟩) h (by kernel_rfl) (fun x3 o h => ?_) (fun r' h => ?_) (fun j3 h => ?_)
          · unfold r01_Lex_l3 at h
            refine adv (ok X) 2 [] pT (by kernel_rfl) ?_
            refine jn (ok X) 1 (fun (j4 : Bool) => ⟨153, 0, [(0, [xS a0]), (5, [xR 0]), (6, [xI x1.1]), (7, [.c (.pv (.int .u8 v1))]), (8, [xI x3]), (51, [xB j4])], [oR true 146 4 (List.map e_r01_Token x1.2)]⟩) h (fun j4 h => ?_) (fun j4 h => ?_)
            · rcases iteE h with ⟨k5, h⟩ | ⟨k5, h⟩
              · obtain ⟨v2, k6, h⟩ := bindE h
                rcases iteE h with ⟨k7, h⟩ | ⟨k7, h⟩
                · obtain ⟨v3, k8, h⟩ := bindE h
                  obtain ⟨v4, k9, h⟩ := bindE h
                  rcases iteE h with ⟨k10, h⟩ | ⟨k10, h⟩
                  · obtain rfl := retE h
                    exact fin (ok X) 1 [.b true, .b true, .c (r_r01_letter v2), .b true, .b true, .b true, .b true, .b true, .b true, .b true, .b true, .b true, .i v3, .b true, .c (r_r01_letter v4), .b true, .b true, .b true, .b true, .b true, .b true, .b true, .b true] (pA k5 (pA k5 (pA (m_r01_letter (X := X) k6) (pA k5 (pA k7 (pA k7 (pA k5 (pA k7 (pA k5 (pA tt (pA tt (pA tt (pA k8 (pA tt (pA (m_r01_letter (X := X) k9) (pA tt (pA k10 (pA k10 (pA k10 (pA k10 (pA tt (pA k10 (pA tt pT))))))))))))))))))))))) (by kernel_rfl)
                  · obtain ⟨v5, k11, h⟩ := bindE h
                    obtain ⟨v6, k12, h⟩ := bindE h
                    obtain rfl := retE h
                    exact fin (ok X) 1 [.b true, .b true, .c (r_r01_letter v2), .b true, .b true, .b true, .b true, .b true, .b true, .b true, .b true, .b true, .i v3, .b true, .c (r_r01_letter v4), .b true, .b false, .b false, .b false, .i v5, .b false, .c (r_r01_digit v6), .b true, .b false, .b true] (pA k5 (pA k5 (pA (m_r01_letter (X := X) k6) (pA k5 (pA k7 (pA k7 (pA k5 (pA k7 (pA k5 (pA tt (pA tt (pA tt (pA k8 (pA tt (pA (m_r01_letter (X := X) k9) (pA tt (pA k10 (pA k10 (pA k10 (pA k11 (pA k10 (pA (m_r01_digit (X := X) k12) (pA tt (pA k10 (pA tt pT))))))))))))))))))))))))) (by kernel_rfl)
                · obtain ⟨v7, k13, h⟩ := bindE h
                  rcases iteE h with ⟨k14, h⟩ | ⟨k14, h⟩
                  · obtain ⟨v8, k15, h⟩ := bindE h
                    obtain ⟨v9, k16, h⟩ := bindE h
                    rcases iteE h with ⟨k17, h⟩ | ⟨k17, h⟩
                    · obtain rfl := retE h
                      exact fin (ok X) 1 [.b true, .b true, .c (r_r01_letter v2), .b true, .b false, .b false, .c (r_r01_digit v7), .b true, .b false, .b true, .b true, .b true, .b true, .i v8, .b true, .c (r_r01_letter v9), .b true, .b true, .b true, .b true, .b true, .b true, .b true, .b true] (pA k5 (pA k5 (pA (m_r01_letter (X := X) k6) (pA k5 (pA k7 (pA k7 (pA (m_r01_digit (X := X) k13) (pA k5 (pA k7 (pA k5 (pA k14 (pA k14 (pA k14 (pA k15 (pA k14 (pA (m_r01_letter (X := X) k16) (pA k14 (pA k17 (pA k17 (pA k17 (pA k17 (pA k14 (pA k17 (pA k14 pT)))))))))))))))))))))))) (by kernel_rfl)
                    · obtain ⟨v10, k18, h⟩ := bindE h
                      obtain ⟨v11, k19, h⟩ := bindE h
                      obtain rfl := retE h
                      exact fin (ok X) 1 [.b true, .b true, .c (r_r01_letter v2), .b true, .b false, .b false, .c (r_r01_digit v7), .b true, .b false, .b true, .b true, .b true, .b true, .i v8, .b true, .c (r_r01_letter v9), .b true, .b false, .b false, .b false, .i v10, .b false, .c (r_r01_digit v11), .b true, .b false, .b true] (pA k5 (pA k5 (pA (m_r01_letter (X := X) k6) (pA k5 (pA k7 (pA k7 (pA (m_r01_digit (X := X) k13) (pA k5 (pA k7 (pA k5 (pA k14 (pA k14 (pA k14 (pA k15 (pA k14 (pA (m_r01_letter (X := X) k16) (pA k14 (pA k17 (pA k17 (pA k17 (pA k18 (pA k17 (pA (m_r01_digit (X := X) k19) (pA k14 (pA k17 (pA k14 pT)))))))))))))))))))))))))) (by kernel_rfl)
                  · obtain rfl := retE h
                    exact fin (ok X) 1 [.b true, .b true, .c (r_r01_letter v2), .b true, .b false, .b false, .c (r_r01_digit v7), .b true, .b false, .b true, .b false, .b false, .b false, .b false, .b false, .b false, .b false] (pA k5 (pA k5 (pA (m_r01_letter (X := X) k6) (pA k5 (pA k7 (pA k7 (pA (m_r01_digit (X := X) k13) (pA k5 (pA k7 (pA k5 (pA k14 (pA k14 (pA k14 (pA k14 (pA k14 (pA k14 (pA k14 pT))))))))))))))))) (by kernel_rfl)
              · obtain rfl := retE h
                exact fin (ok X) 1 [.b false, .b false, .b false, .b false, .b false, .b false, .b false, .b false, .b false, .b false, .b false, .b false] (pA k5 (pA k5 (pA k5 (pA k5 (pA k5 (pA ff (pA ff (pA ff (pA ff (pA ff (pA ff (pA ff pT)))))))))))) (by kernel_rfl)
            · rcases iteE h with ⟨k20, h⟩ | ⟨k20, h⟩
              · obtain rfl := retE h
                exact fin (ok X) 5 [.b true] (pA k20 pT) (by kernel_rfl)
              · obtain rfl := retE h
                exact fin (ok X) 2 [.b false] (pA k20 pT) (by kernel_rfl)
          · cases h
          · refine adv (ok X) 3 [] pT (by kernel_rfl) ?_
            refine jr (ok X) 1 (fun (j5 : (Int × Int × ByteArray × Int)) => ⟨153, 0, [(0, [xS a0]), (5, [xR 0]), (8, [xI j5.1]), (9, [xP 1 0])], [oR true 146 4 (List.map e_r01_Token x1.2), oB 146 (bs (e_r01_Token (r01_Token.mk j5.2.1 j5.2.2.1 j5.2.2.2 x1.1)))]⟩) R_r01_Lex (fun _ => ⟨_, _, _, _, rfl⟩) h (fun o h => ?_) (fun r' h => ?_) (fun j5 h => ?_)
            · obtain ⟨v12, k21, h⟩ := bindE h
              refine adv (ok X) 3 [.c (r_r01_letter v12)] (pA (m_r01_letter (X := X) k21) pT) (by kernel_rfl) ?_
              rcases iteE h with ⟨k22, h⟩ | ⟨k22, h⟩
              · obtain ⟨v13, k23, h⟩ := bindE h
                obtain ⟨v14, k24, h⟩ := bindE h
                refine adv (ok X) 6 [.b true, .o [0, 1, 2, 3, 4, 5, 6, 7], .x [xS v13], .c (r_r01_Reserved v14)] (pA k22 (pA k23 (pA (m_r01_Reserved (X := X) k24) pT))) (by kernel_rfl) ?_
                rcases iteE h with ⟨k25, h⟩ | ⟨k25, h⟩
                · refine adv (ok X) 4 [.b true] (pA k25 pT) (by kernel_rfl) ?_
                  rcases iteE h with ⟨k26, h⟩ | ⟨k26, h⟩
                  · obtain rfl := retE h
                    exact fin (ok X) 4 [.b true] (pA k26 pT) (by kernel_rfl)
                  · obtain rfl := retE h
                    exact fin (ok X) 3 [.b false] (pA k26 pT) (by kernel_rfl)
                · refine adv (ok X) 4 [.b false] (pA k25 pT) (by kernel_rfl) ?_
                  rcases iteE h with ⟨k27, h⟩ | ⟨k27, h⟩
                  · obtain rfl := retE h
                    exact fin (ok X) 4 [.b true] (pA k27 pT) (by kernel_rfl)
                  · obtain rfl := retE h
                    exact fin (ok X) 3 [.b false] (pA k27 pT) (by kernel_rfl)
              · obtain ⟨v15, k28, h⟩ := bindE h
                refine adv (ok X) 3 [.b false, .c (r_r01_digit v15)] (pA k22 (pA (m_r01_digit (X := X) k28) pT)) (by kernel_rfl) ?_
                rcases iteE h with ⟨k29, h⟩ | ⟨k29, h⟩
                · obtain ⟨v16, k30, h⟩ := bindE h
                  refine adv (ok X) 5 [.b true, .o [0, 1, 2, 3, 4, 5, 6, 7], .x [xS v16]] (pA k29 (pA k30 pT)) (by kernel_rfl) ?_
                  refine jn (ok X) 1 (fun (j6 : Bool) => ⟨153, 0, [(0, [xS a0]), (5, [xR 0]), (6, [xI x1.1]), (8, [xI j3]), (9, [xP 1 0]), (111, [xB j6])], [oR true 146 4 (List.map e_r01_Token x1.2), oB 146 (bs (e_r01_Token (r01_Token.mk 2 v16 0 x1.1)))]⟩) h (fun j6 h => ?_) (fun j6 h => ?_)
                  · rcases iteE h with ⟨k31, h⟩ | ⟨k31, h⟩
                    · obtain rfl := retE h
                      exact fin (ok X) 1 [.b true, .b true, .b true, .b true, .b true, .b true, .b true] (pA k31 (pA k31 (pA k31 (pA k31 (pA k31 (pA k31 (pA k31 pT))))))) (by kernel_rfl)
                    · rcases iteE h with ⟨k32, h⟩ | ⟨k32, h⟩
                      · obtain rfl := retE h
                        exact fin (ok X) 1 [.b false, .b false, .b false, .b false, .b false, .b true, .b true, .b false, .b true, .b false] (pA k31 (pA k31 (pA k31 (pA k31 (pA k31 (pA k32 (pA k32 (pA k31 (pA k32 (pA k31 pT)))))))))) (by kernel_rfl)
                      · obtain rfl := retE h
                        exact fin (ok X) 1 [.b false, .b false, .b false, .b false, .b false, .b false, .b false, .b false, .b false, .b false] (pA k31 (pA k31 (pA k31 (pA k31 (pA k31 (pA k32 (pA k32 (pA k31 (pA k32 (pA k31 pT)))))))))) (by kernel_rfl)
                  · rcases iteE h with ⟨k33, h⟩ | ⟨k33, h⟩
                    · obtain rfl := retE h
                      exact fin (ok X) 4 [.b true] (pA k33 pT) (by kernel_rfl)
                    · refine adv (ok X) 5 [.b false] (pA k33 pT) (by kernel_rfl) ?_
                      refine lp (ok X) (r01_Lex_l7 v16 x1) (fun (x7 : (Int × Int)) => ⟨153, 0, [(0, [xS a0]), (5, [xR 0]), (6, [xI x1.1]), (8, [xI j3]), (9, [xP 1 0]), (10, [xI x7.1])], [oR true 146 4 (List.map e_r01_Token x1.2), oB 146 (bs (e_r01_Token (r01_Token.mk 2 v16 x7.2 x1.1)))]⟩) (fun (j7 : Int) => ⟨153, 0, [(0, [xS a0]), (5, [xR 0]), (6, [xI x1.1]), (8, [xI j3]), (9, [xP 1 0])], [oR true 146 4 (List.map e_r01_Token x1.2), oB 146 (bs (e_r01_Token (r01_Token.mk 2 v16 j7 x1.1)))]⟩) R_r01_Lex (0, 0) (fun _ => ⟨_, _, _, _, rfl⟩) h (by kernel_rfl) (fun x7 o h => ?_) (fun r' h => ?_) (fun j7 h => ?_)
                      · unfold r01_Lex_l7 at h
                        rcases iteE h with ⟨k34, h⟩ | ⟨k34, h⟩
                        · obtain ⟨v17, k35, h⟩ := bindE h
                          obtain ⟨v18, k36, h⟩ := bindE h
                          refine adv (ok X) 10 [.b true, .i v17, .c (r_r01_digit v18)] (pA k34 (pA k35 (pA (m_r01_digit (X := X) k36) pT))) (by kernel_rfl) ?_
                          rcases iteE h with ⟨k37, h⟩ | ⟨k37, h⟩
                          · obtain rfl := retE h
                            exact fin (ok X) 4 [.b true] (pA k37 pT) (by kernel_rfl)
                          · obtain ⟨v19, k38, h⟩ := bindE h
                            obtain rfl := retE h
                            exact fin (ok X) 5 [.b false, .o [0, 1, 2, 3, 4, 5, 6, 7, 8, 9, 10, 11], .i v19] (pA k37 (pA k38 pT)) (by kernel_rfl)
                        · obtain rfl := retE h
                          exact fin (ok X) 5 [.b false] (pA k34 pT) (by kernel_rfl)
                      · obtain rfl := retE h
                        kernel_rfl
                      · rcases iteE h with ⟨k39, h⟩ | ⟨k39, h⟩
                        · obtain rfl := retE h
                          exact fin (ok X) 6 [.b true] (pA k39 pT) (by kernel_rfl)
                        · obtain rfl := retE h
                          exact fin (ok X) 5 [.b false] (pA k39 pT) (by kernel_rfl)
                · obtain ⟨v20, k40, h⟩ := bindE h
                  refine adv (ok X) 6 [.b false, .c (r_r01_sign v20)] (pA k29 (pA (m_r01_sign (X := X) k40) pT)) (by kernel_rfl) ?_
                  rcases iteE h with ⟨k41, h⟩ | ⟨k41, h⟩
                  · obtain rfl := retE h
                    exact fin (ok X) 4 [.b true] (pA k41 pT) (by kernel_rfl)
                  · obtain ⟨v21, k42, h⟩ := bindE h
                    obtain rfl := retE h
                    exact fin (ok X) 6 [.b false, .o [0, 1, 2, 3, 4, 5, 6, 7], .x [xS v21]] (pA k41 (pA k42 pT)) (by kernel_rfl)
            · obtain rfl := retE h
              kernel_rfl
            · obtain ⟨v22, k43, h⟩ := bindE h
              obtain rfl := retE h
              exact fin (ok X) 4 [.l (List.map e_r01_Token v22)] (pA (apm (L := x1.2) (M := [(r01_Token.mk j5.2.1 j5.2.2.1 j5.2.2.2 x1.1)]) e_r01_Token_len k43) pT) (by kernel_rfl)
    · obtain rfl := retE h
      exact fin (ok X) 5 [.b false] (pA k1 pT) (by kernel_rfl)
  · obtain rfl := retE h
    kernel_rfl
  · refine adv (ok X) 3 [.i (j1.length : Int)] (pA (lm e_r01_Token j1) pT) (by kernel_rfl) ?_
    rcases iteE h with ⟨k44, h⟩ | ⟨k44, h⟩
    · obtain rfl := retE h
      exact fin (ok X) 4 [.b true] (pA k44 pT) (by kernel_rfl)
    · obtain rfl := retE h
      exact fin (ok X) 5 [.b false] (pA k44 pT) (by kernel_rfl)

theorem m_r03_Reader_is {a0 : r03_Reader} {a1 : ByteArray} {r : Bool} (h : r03_Reader_is a0 a1 = some r) : Cs Tryz.prog (GX X) 26 [xP 0 0, xS a1] [oB 89 (bs (e_r03_Reader a0))] (r_r03_Reader_is r) (o_r03_Reader_is a0 r) := by
  refine fnT (cx := cx X) Tryz.f26 Tryz.call26 Tryz.func26 (by kernel_rfl) ?_
  unfold r03_Reader_is at h
  rcases iteE h with ⟨k1, h⟩ | ⟨k1, h⟩
  · rcases iteE h with ⟨k2, h⟩ | ⟨k2, h⟩
    · obtain ⟨v1, k3, h⟩ := bindE h
      rcases iteE h with ⟨k4, h⟩ | ⟨k4, h⟩
      · obtain rfl := retE h
        exact fin (ok X) 5 [.o [0, 1, 2, 3, 4, 5, 6, 7, 8, 9, 10, 11, 12, 13, 14, 15, 16, 17, 18, 19, 20, 21, 22, 23, 24, 25, 26, 27, 28, 29, 30, 31, 32, 33, 34, 35, 36, 37, 38, 39, 40, 41, 42, 43, 44, 45, 46], .b true, .b true, .b true, .b true, .b true, .b true, .b true, .b true, .b true, .i (a0.L.length : Int), .b true, .b true, .b true, .b true, .b true, .b true, .b true, .b true, .b true, .b true, .b true, .e (e_r01_Token v1), .b true, .b true, .b true, .b true, .b true, .b true, .b true, .b true, .b true, .b true, .b true, .b true, .b true, .b true, .e (e_r01_Token v1), .b true, .b true, .b true, .b true] (pA k1 (pA k1 (pA k1 (pA k1 (pA k1 (pA k1 (pA k1 (pA k1 (pA k1 (pA (lm e_r01_Token a0.L) (pA k1 (pA k1 (pA k2 (pA k2 (pA k2 (pA k2 (pA k2 (pA k2 (pA k2 (pA k2 (pA k2 (pA (ixm e_r01_Token k3) (pA k2 (pA k2 (pA k2 (pA k2 (pA k2 (pA k4 (pA k4 (pA k4 (pA k4 (pA k4 (pA k4 (pA k4 (pA k4 (pA k4 (pA (ixm e_r01_Token k3) (pA k4 (pA k4 (pA k4 (pA k4 pT))))))))))))))))))))))))))))))))))))))))) (by kernel_rfl)
      · obtain rfl := retE h
        exact fin (ok X) 5 [.o [0, 1, 2, 3, 4, 5, 6, 7, 8, 9, 10, 11, 12, 13, 14, 15, 16, 17, 18, 19, 20, 21, 22, 23, 24, 25, 26, 27, 28, 29, 30, 31, 32, 33, 34, 35, 36, 37, 38, 39, 40, 41, 42, 43, 44, 45, 46], .b true, .b true, .b true, .b true, .b true, .b true, .b true, .b true, .b true, .i (a0.L.length : Int), .b true, .b true, .b true, .b true, .b true, .b true, .b true, .b true, .b true, .b true, .b true, .e (e_r01_Token v1), .b true, .b true, .b true, .b true, .b true, .b false, .b false, .b false, .b false, .b false, .b false, .b false, .b false, .b false, .b false, .b false, .b false, .b false] (pA k1 (pA k1 (pA k1 (pA k1 (pA k1 (pA k1 (pA k1 (pA k1 (pA k1 (pA (lm e_r01_Token a0.L) (pA k1 (pA k1 (pA k2 (pA k2 (pA k2 (pA k2 (pA k2 (pA k2 (pA k2 (pA k2 (pA k2 (pA (ixm e_r01_Token k3) (pA k2 (pA k2 (pA k2 (pA k2 (pA k2 (pA k4 (pA k4 (pA k4 (pA k4 (pA k4 (pA k4 (pA k4 (pA k4 (pA k4 (pA k4 (pA k4 (pA k4 (pA k4 pT)))))))))))))))))))))))))))))))))))))))) (by kernel_rfl)
    · obtain rfl := retE h
      exact fin (ok X) 5 [.o [0, 1, 2, 3, 4, 5, 6, 7, 8, 9, 10, 11, 12, 13, 14, 15, 16, 17, 18, 19, 20, 21, 22, 23, 24, 25, 26, 27, 28, 29, 30, 31, 32, 33, 34, 35, 36, 37, 38, 39, 40, 41, 42, 43, 44, 45, 46], .b true, .b true, .b true, .b true, .b true, .b true, .b true, .b true, .b true, .i (a0.L.length : Int), .b true, .b true, .b false, .b false, .b false, .b false, .b false, .b false, .b false, .b false, .b false, .b false, .b false, .b false, .b false, .b false, .b false, .b false, .b false, .b false, .b false, .b false, .b false, .b false, .b false, .b false, .b false, .b false, .b false] (pA k1 (pA k1 (pA k1 (pA k1 (pA k1 (pA k1 (pA k1 (pA k1 (pA k1 (pA (lm e_r01_Token a0.L) (pA k1 (pA k1 (pA k2 (pA k2 (pA k2 (pA k2 (pA k2 (pA k2 (pA k2 (pA k2 (pA k2 (pA k2 (pA k2 (pA k2 (pA k2 (pA k2 (pA ff (pA ff (pA ff (pA ff (pA ff (pA ff (pA ff (pA ff (pA ff (pA ff (pA ff (pA ff (pA ff pT))))))))))))))))))))))))))))))))))))))) (by kernel_rfl)
  · obtain rfl := retE h
    exact fin (ok X) 5 [.o [0, 1, 2, 3, 4, 5, 6, 7, 8, 9, 10, 11, 12, 13, 14, 15, 16, 17, 18, 19, 20, 21, 22, 23, 24, 25, 26, 27, 28, 29, 30, 31, 32, 33, 34, 35, 36, 37, 38, 39, 40, 41, 42, 43, 44, 45, 46], .b false, .b false, .b false, .b false, .b false, .b false, .b false, .b false, .b false, .b false, .b false, .b false, .b false, .b false, .b false, .b false, .b false, .b false, .b false, .b false, .b false, .b false, .b false, .b false, .b false, .b false, .b false, .b false, .b false, .b false, .b false, .b false, .b false, .b false, .b false, .b false, .b false, .b false] (pA k1 (pA k1 (pA k1 (pA k1 (pA k1 (pA k1 (pA k1 (pA k1 (pA k1 (pA k1 (pA k1 (pA ff (pA ff (pA ff (pA ff (pA ff (pA ff (pA ff (pA ff (pA ff (pA ff (pA ff (pA ff (pA ff (pA ff (pA ff (pA ff (pA ff (pA ff (pA ff (pA ff (pA ff (pA ff (pA ff (pA ff (pA ff (pA ff (pA ff pT)))))))))))))))))))))))))))))))))))))) (by kernel_rfl)

theorem m_r03_Reader_fail {a0 : r03_Reader} {a1 : Int} {r : r03_Reader} (h : r03_Reader_fail a0 a1 = some r) : Cs Tryz.prog (GX X) 32 [xP 0 0, xI a1] [oB 89 (bs (e_r03_Reader a0))] (r_r03_Reader_fail r) (o_r03_Reader_fail r) := by
  refine fnT (cx := cx X) Tryz.f32 Tryz.call32 Tryz.func32 (by kernel_rfl) ?_
  unfold r03_Reader_fail at h
  rcases iteE h with ⟨k1, h⟩ | ⟨k1, h⟩
  · obtain rfl := retE h
    exact fin (ok X) 5 [.b true] (pA k1 pT) (by kernel_rfl)
  · refine adv (ok X) 9 [.b false, .o [0, 1, 2, 3, 4, 5, 6, 7, 8, 9], .i (a0.L.length : Int)] (pA k1 (pA (lm e_r01_Token a0.L) pT)) (by kernel_rfl) ?_
    rcases iteE h with ⟨k2, h⟩ | ⟨k2, h⟩
    · obtain ⟨v1, k3, h⟩ := bindE h
      obtain rfl := retE h
      exact fin (ok X) 2 [.b true, .o [0, 1, 2, 3, 4, 5, 6, 7, 8, 9, 10, 11, 12, 13, 14], .e (e_r01_Token v1)] (pA k2 (pA (ixm e_r01_Token k3) pT)) (by kernel_rfl)
    · obtain rfl := retE h
      exact fin (ok X) 2 [.b false] (pA k2 pT) (by kernel_rfl)

theorem m_r03_Reader_name {a0 : r03_Reader} {r : (r03_Reader × ByteArray)} (h : r03_Reader_name a0 = some r) : Cs Tryz.prog (GX X) 28 [xP 0 0] [oB 89 (bs (e_r03_Reader a0))] (r_r03_Reader_name r) (o_r03_Reader_name r) := by
  refine fnT (cx := cx X) Tryz.f28 Tryz.call28 Tryz.func28 (by kernel_rfl) ?_
  unfold r03_Reader_name at h
  refine adv (ok X) 4 [] pT (by kernel_rfl) ?_
  refine jn (ok X) 1 (fun (j1 : Bool) => ⟨55, 1, [(0, [xP 0 0]), (33, [xB j1])], [oB 89 (bs (e_r03_Reader a0))]⟩) h (fun j1 h => ?_) (fun j1 h => ?_)
  · rcases iteE h with ⟨k1, h⟩ | ⟨k1, h⟩
    · obtain rfl := retE h
      exact fin (ok X) 1 [.o [0, 1, 2, 3, 4, 5, 6, 7, 8, 9, 10, 11, 12, 13, 14, 15, 16, 17, 18, 19, 20, 21, 22, 23, 24, 25, 26, 27, 28, 29, 30], .b true, .b true, .b true, .b true, .b true, .b true, .b true, .b true, .b true, .b true, .b true, .b true, .b true, .b true, .b true, .b true, .b true, .b true, .b true, .b true, .b true, .b true, .b true, .b true] (pA k1 (pA k1 (pA k1 (pA k1 (pA k1 (pA k1 (pA k1 (pA k1 (pA k1 (pA k1 (pA k1 (pA tt (pA tt (pA tt (pA tt (pA tt (pA tt (pA tt (pA tt (pA tt (pA tt (pA tt (pA tt (pA tt pT)))))))))))))))))))))))) (by kernel_rfl)
    · rcases iteE h with ⟨k2, h⟩ | ⟨k2, h⟩
      · obtain rfl := retE h
        exact fin (ok X) 1 [.o [0, 1, 2, 3, 4, 5, 6, 7, 8, 9, 10, 11, 12, 13, 14, 15, 16, 17, 18, 19, 20, 21, 22, 23, 24, 25, 26, 27, 28, 29, 30], .b false, .b false, .b false, .b false, .b false, .b false, .b false, .b false, .b false, .i (a0.L.length : Int), .b false, .b false, .b true, .b true, .b true, .b true, .b true, .b true, .b true, .b true, .b true, .b true, .b true, .b true, .b true] (pA k1 (pA k1 (pA k1 (pA k1 (pA k1 (pA k1 (pA k1 (pA k1 (pA k1 (pA (lm e_r01_Token a0.L) (pA k1 (pA k1 (pA k2 (pA k2 (pA k2 (pA k2 (pA k2 (pA k2 (pA k2 (pA k2 (pA k2 (pA k2 (pA k2 (pA k2 (pA k2 pT))))))))))))))))))))))))) (by kernel_rfl)
      · obtain ⟨v1, k3, h⟩ := bindE h
        obtain rfl := retE h
        exact fin (ok X) 1 [.o [0, 1, 2, 3, 4, 5, 6, 7, 8, 9, 10, 11, 12, 13, 14, 15, 16, 17, 18, 19, 20, 21, 22, 23, 24, 25, 26, 27, 28, 29, 30], .b false, .b false, .b false, .b false, .b false, .b false, .b false, .b false, .b false, .i (a0.L.length : Int), .b false, .b false, .b false, .b false, .b false, .b false, .b false, .b false, .b false, .b false, .b false, .e (e_r01_Token v1), .b false, .b false, .b false, .b false] (pA k1 (pA k1 (pA k1 (pA k1 (pA k1 (pA k1 (pA k1 (pA k1 (pA k1 (pA (lm e_r01_Token a0.L) (pA k1 (pA k1 (pA k2 (pA k2 (pA k2 (pA k2 (pA k2 (pA k2 (pA k2 (pA k2 (pA k2 (pA (ixm e_r01_Token k3) (pA k2 (pA k2 (pA k2 (pA k2 pT)))))))))))))))))))))))))) (by kernel_rfl)
  · rcases iteE h with ⟨k4, h⟩ | ⟨k4, h⟩
    · obtain ⟨v2, k5, h⟩ := bindE h
      obtain rfl := retE h
      exact fin (ok X) 6 [.b true, .s (r_r03_Reader_fail v2) (o_r03_Reader_fail v2)] (pA k4 (pA (m_r03_Reader_fail (X := X) k5) pT)) (by kernel_rfl)
    · obtain ⟨v3, k6, h⟩ := bindE h
      obtain rfl := retE h
      exact fin (ok X) 7 [.b false, .o [0, 1, 2, 3, 4, 5, 6, 7, 8, 9, 10, 11, 12], .e (e_r01_Token v3)] (pA k4 (pA (ixm e_r01_Token k6) pT)) (by kernel_rfl)

theorem m_r03_Reader_number {a0 : r03_Reader} {r : (r03_Reader × Int)} (h : r03_Reader_number a0 = some r) : Cs Tryz.prog (GX X) 30 [xP 0 0] [oB 89 (bs (e_r03_Reader a0))] (r_r03_Reader_number r) (o_r03_Reader_number r) := by
  refine fnT (cx := cx X) Tryz.f30 Tryz.call30 Tryz.func30 (by kernel_rfl) ?_
  unfold r03_Reader_number at h
  refine adv (ok X) 4 [] pT (by kernel_rfl) ?_
  refine jn (ok X) 1 (fun (j1 : Bool) => ⟨55, 1, [(0, [xP 0 0]), (33, [xB j1])], [oB 89 (bs (e_r03_Reader a0))]⟩) h (fun j1 h => ?_) (fun j1 h => ?_)
  · rcases iteE h with ⟨k1, h⟩ | ⟨k1, h⟩
    · obtain rfl := retE h
      exact fin (ok X) 1 [.o [0, 1, 2, 3, 4, 5, 6, 7, 8, 9, 10, 11, 12, 13, 14, 15, 16, 17, 18, 19, 20, 21, 22, 23, 24, 25, 26, 27, 28, 29, 30], .b true, .b true, .b true, .b true, .b true, .b true, .b true, .b true, .b true, .b true, .b true, .b true, .b true, .b true, .b true, .b true, .b true, .b true, .b true, .b true, .b true, .b true, .b true, .b true] (pA k1 (pA k1 (pA k1 (pA k1 (pA k1 (pA k1 (pA k1 (pA k1 (pA k1 (pA k1 (pA k1 (pA tt (pA tt (pA tt (pA tt (pA tt (pA tt (pA tt (pA tt (pA tt (pA tt (pA tt (pA tt (pA tt pT)))))))))))))))))))))))) (by kernel_rfl)
    · rcases iteE h with ⟨k2, h⟩ | ⟨k2, h⟩
      · obtain rfl := retE h
        exact fin (ok X) 1 [.o [0, 1, 2, 3, 4, 5, 6, 7, 8, 9, 10, 11, 12, 13, 14, 15, 16, 17, 18, 19, 20, 21, 22, 23, 24, 25, 26, 27, 28, 29, 30], .b false, .b false, .b false, .b false, .b false, .b false, .b false, .b false, .b false, .i (a0.L.length : Int), .b false, .b false, .b true, .b true, .b true, .b true, .b true, .b true, .b true, .b true, .b true, .b true, .b true, .b true, .b true] (pA k1 (pA k1 (pA k1 (pA k1 (pA k1 (pA k1 (pA k1 (pA k1 (pA k1 (pA (lm e_r01_Token a0.L) (pA k1 (pA k1 (pA k2 (pA k2 (pA k2 (pA k2 (pA k2 (pA k2 (pA k2 (pA k2 (pA k2 (pA k2 (pA k2 (pA k2 (pA k2 pT))))))))))))))))))))))))) (by kernel_rfl)
      · obtain ⟨v1, k3, h⟩ := bindE h
        obtain rfl := retE h
        exact fin (ok X) 1 [.o [0, 1, 2, 3, 4, 5, 6, 7, 8, 9, 10, 11, 12, 13, 14, 15, 16, 17, 18, 19, 20, 21, 22, 23, 24, 25, 26, 27, 28, 29, 30], .b false, .b false, .b false, .b false, .b false, .b false, .b false, .b false, .b false, .i (a0.L.length : Int), .b false, .b false, .b false, .b false, .b false, .b false, .b false, .b false, .b false, .b false, .b false, .e (e_r01_Token v1), .b false, .b false, .b false, .b false] (pA k1 (pA k1 (pA k1 (pA k1 (pA k1 (pA k1 (pA k1 (pA k1 (pA k1 (pA (lm e_r01_Token a0.L) (pA k1 (pA k1 (pA k2 (pA k2 (pA k2 (pA k2 (pA k2 (pA k2 (pA k2 (pA k2 (pA k2 (pA (ixm e_r01_Token k3) (pA k2 (pA k2 (pA k2 (pA k2 pT)))))))))))))))))))))))))) (by kernel_rfl)
  · rcases iteE h with ⟨k4, h⟩ | ⟨k4, h⟩
    · obtain ⟨v2, k5, h⟩ := bindE h
      obtain rfl := retE h
      exact fin (ok X) 6 [.b true, .s (r_r03_Reader_fail v2) (o_r03_Reader_fail v2)] (pA k4 (pA (m_r03_Reader_fail (X := X) k5) pT)) (by kernel_rfl)
    · obtain ⟨v3, k6, h⟩ := bindE h
      obtain rfl := retE h
      exact fin (ok X) 7 [.b false, .o [0, 1, 2, 3, 4, 5, 6, 7, 8, 9, 10, 11, 12], .e (e_r01_Token v3)] (pA k4 (pA (ixm e_r01_Token k6) pT)) (by kernel_rfl)

theorem m_r03_Reader_must {a0 : r03_Reader} {a1 : ByteArray} {r : r03_Reader} (h : r03_Reader_must a0 a1 = some r) : Cs Tryz.prog (GX X) 29 [xP 0 0, xS a1] [oB 89 (bs (e_r03_Reader a0))] (r_r03_Reader_must r) (o_r03_Reader_must r) := by
  refine fnT (cx := cx X) Tryz.f29 Tryz.call29 Tryz.func29 (by kernel_rfl) ?_
  unfold r03_Reader_must at h
  obtain ⟨v1, k1, h⟩ := bindE h
  refine adv (ok X) 3 [.s (r_r03_Reader_is v1) (o_r03_Reader_is a0 v1)] (pA (m_r03_Reader_is (X := X) k1) pT) (by kernel_rfl) ?_
  rcases iteE h with ⟨k2, h⟩ | ⟨k2, h⟩
  · obtain ⟨v2, k3, h⟩ := bindE h
    obtain rfl := retE h
    exact fin (ok X) 4 [.b true, .s (r_r03_Reader_fail v2) (o_r03_Reader_fail v2)] (pA k2 (pA (m_r03_Reader_fail (X := X) k3) pT)) (by kernel_rfl)
  · obtain rfl := retE h
    exact fin (ok X) 3 [.b false] (pA k2 pT) (by kernel_rfl)

theorem m_r03_Reader_channel {a0 : r03_Reader} {r : (r03_Reader × r02_Chan)} (h : r03_Reader_channel a0 = some r) : Cs Tryz.prog (GX X) 27 [xP 0 0] [oB 89 (bs (e_r03_Reader a0))] (r_r03_Reader_channel r) (o_r03_Reader_channel r) := by
  refine fnT (cx := cx X) Tryz.f27 Tryz.call27 Tryz.func27 (by kernel_rfl) ?_
  unfold r03_Reader_channel at h
  obtain ⟨v1, k1, h⟩ := bindE h
  refine adv (ok X) 9 [.s (r_r03_Reader_name v1) (o_r03_Reader_name v1)] (pA (m_r03_Reader_name (X := X) k1) pT) (by kernel_rfl) ?_
  refine lp (ok X) (r03_Reader_channel_l1 v1) (fun (x1 : (Int × Int)) => ⟨78, 1, [(0, [xP 0 0]), (2, [xP 1 0]), (3, [xP 2 0]), (4, [xL (List.map e_str [(ByteArray.mk #[98, 108, 111, 99, 107]), (ByteArray.mk #[100, 114, 111, 112]), (ByteArray.mk #[108, 111, 115, 115, 121])])]), (5, [xI x1.1])], [oB 89 (bs (e_r03_Reader v1.1)), oB 90 [.pv (.str (ByteArray.mk #[])), .pv (.int .i64 0), .pv (.int .i64 0), .pv (.str (ByteArray.mk #[])), .pv (.str (ByteArray.mk #[])), .emp], oB 90 [.pv (.str v1.2), .pv (.int .i64 x1.2), .pv (.int .i64 0), .pv (.str (ByteArray.mk #[])), .pv (.str (ByteArray.mk #[])), .emp]]⟩) (fun (j1 : Int) => ⟨78, 1, [(0, [xP 0 0]), (2, [xP 1 0]), (3, [xP 2 0])], [oB 89 (bs (e_r03_Reader v1.1)), oB 90 [.pv (.str (ByteArray.mk #[])), .pv (.int .i64 0), .pv (.int .i64 0), .pv (.str (ByteArray.mk #[])), .pv (.str (ByteArray.mk #[])), .emp], oB 90 [.pv (.str v1.2), .pv (.int .i64 j1), .pv (.int .i64 0), .pv (.str (ByteArray.mk #[])), .pv (.str (ByteArray.mk #[])), .emp]]⟩) R_r03_Reader_channel (0, (-1)) (fun _ => ⟨_, _, _, _, rfl⟩) h (by kernel_rfl) (fun x1 o h => ?_) (fun r' h => ?_) (fun j1 h => ?_)
  · unfold r03_Reader_channel_l1 at h
    rcases iteE h with ⟨k2, h⟩ | ⟨k2, h⟩
    · refine adv (ok X) 6 [.b true] (pA k2 pT) (by kernel_rfl) ?_
      refine jn (ok X) 1 (fun (j2 : Int) => ⟨78, 1, [(0, [xP 0 0]), (2, [xP 1 0]), (3, [xP 2 0]), (4, [xL (List.map e_str [(ByteArray.mk #[98, 108, 111, 99, 107]), (ByteArray.mk #[100, 114, 111, 112]), (ByteArray.mk #[108, 111, 115, 115, 121])])]), (5, [xI x1.1])], [oB 89 (bs (e_r03_Reader v1.1)), oB 90 [.pv (.str (ByteArray.mk #[])), .pv (.int .i64 0), .pv (.int .i64 0), .pv (.str (ByteArray.mk #[])), .pv (.str (ByteArray.mk #[])), .emp], oB 90 [.pv (.str v1.2), .pv (.int .i64 j2), .pv (.int .i64 0), .pv (.str (ByteArray.mk #[])), .pv (.str (ByteArray.mk #[])), .emp]]⟩) h (fun j2 h => ?_) (fun j2 h => ?_)
      · obtain ⟨v2, k3, h⟩ := bindE h
        obtain ⟨v3, k4, h⟩ := bindE h
        refine adv (ok X) 3 [.e [.str v2], .s (r_r03_Reader_is v3) (o_r03_Reader_is v1.1 v3)] (pA (ixm e_str k3) (pA (m_r03_Reader_is (X := X) k4) pT)) (by kernel_rfl) ?_
        rcases iteE h with ⟨k5, h⟩ | ⟨k5, h⟩
        · obtain rfl := retE h
          exact fin (ok X) 3 [.b true] (pA k5 pT) (by kernel_rfl)
        · obtain rfl := retE h
          exact fin (ok X) 3 [.b false] (pA k5 pT) (by kernel_rfl)
      · obtain rfl := retE h
        exact fin (ok X) 1 [] pT (by kernel_rfl)
    · obtain rfl := retE h
      exact fin (ok X) 5 [.b false] (pA k2 pT) (by kernel_rfl)
  · cases h
  · rcases iteE h with ⟨k6, h⟩ | ⟨k6, h⟩
    · obtain ⟨v4, k7, h⟩ := bindE h
      obtain rfl := retE h
      exact fin (ok X) 9 [.b true, .s (r_r03_Reader_fail v4) (o_r03_Reader_fail v4)] (pA k6 (pA (m_r03_Reader_fail (X := X) k7) pT)) (by kernel_rfl)
    · obtain ⟨v5, k8, h⟩ := bindE h
      obtain ⟨v6, k9, h⟩ := bindE h
      obtain ⟨v7, k10, h⟩ := bindE h
      obtain ⟨v8, k11, h⟩ := bindE h
      obtain ⟨v9, k12, h⟩ := bindE h
      obtain ⟨v10, k13, h⟩ := bindE h
      obtain ⟨v11, k14, h⟩ := bindE h
      obtain ⟨v12, k15, h⟩ := bindE h
      refine adv (ok X) 22 [.b false, .s (r_r03_Reader_number v5) (o_r03_Reader_number v5), .s (r_r03_Reader_must v6) (o_r03_Reader_must v6), .s (r_r03_Reader_name v7) (o_r03_Reader_name v7), .s (r_r03_Reader_must v8) (o_r03_Reader_must v8), .s (r_r03_Reader_name v9) (o_r03_Reader_name v9), .s (r_r03_Reader_must v10) (o_r03_Reader_must v10), .o [0, 1, 2, 3, 4, 5, 6, 7], .s (r_r03_Reader_name v11) (o_r03_Reader_name v11), .l (List.map e_str v12)] (pA k6 (pA (m_r03_Reader_number (X := X) k8) (pA (m_r03_Reader_must (X := X) k9) (pA (m_r03_Reader_name (X := X) k10) (pA (m_r03_Reader_must (X := X) k11) (pA (m_r03_Reader_name (X := X) k12) (pA (m_r03_Reader_must (X := X) k13) (pA (m_r03_Reader_name (X := X) k14) (pA (apm (L := []) (M := [v11.2]) e_str_len k15) pT))))))))) (by kernel_rfl) ?_
      refine lp (ok X) (r03_Reader_channel_l3) (fun (x3 : ((List r01_Token) × Int × Int × Int × Int × (List ByteArray))) => ⟨78, 1, [(0, [xP 0 0]), (2, [xP 1 0]), (3, [xP 2 0])], [oB 89 (bs (e_r03_Reader (r03_Reader.mk x3.1 x3.2.1 x3.2.2.1 x3.2.2.2.1 x3.2.2.2.2.1))), oB 90 [.pv (.str (ByteArray.mk #[])), .pv (.int .i64 0), .pv (.int .i64 0), .pv (.str (ByteArray.mk #[])), .pv (.str (ByteArray.mk #[])), .emp], oB 90 [.pv (.str v1.2), .pv (.int .i64 j1), .pv (.int .i64 v5.2), .pv (.str v7.2), .pv (.str v9.2), .row 3], oR true 9 1 (List.map e_str x3.2.2.2.2.2)]⟩) (fun (j3 : ((List r01_Token) × Int × Int × Int × Int × (List ByteArray))) => ⟨78, 1, [(0, [xP 0 0]), (2, [xP 1 0]), (3, [xP 2 0])], [oB 89 (bs (e_r03_Reader (r03_Reader.mk j3.1 j3.2.1 j3.2.2.1 j3.2.2.2.1 j3.2.2.2.2.1))), oB 90 [.pv (.str (ByteArray.mk #[])), .pv (.int .i64 0), .pv (.int .i64 0), .pv (.str (ByteArray.mk #[])), .pv (.str (ByteArray.mk #[])), .emp], oB 90 [.pv (.str v1.2), .pv (.int .i64 j1), .pv (.int .i64 v5.2), .pv (.str v7.2), .pv (.str v9.2), .row 3], oR true 9 1 (List.map e_str j3.2.2.2.2.2)]⟩) R_r03_Reader_channel (v11.1.L, v11.1.I, v11.1.End, v11.1.E, v11.1.At, v12) (fun _ => ⟨_, _, _, _, rfl⟩) h (by kernel_rfl) (fun x3 o h => ?_) (fun r' h => ?_) (fun j3 h => ?_)
      · unfold r03_Reader_channel_l3 at h
        obtain ⟨v13, k16, h⟩ := bindE h
        refine adv (ok X) 3 [.s (r_r03_Reader_is v13) (o_r03_Reader_is (r03_Reader.mk x3.1 x3.2.1 x3.2.2.1 x3.2.2.2.1 x3.2.2.2.2.1) v13)] (pA (m_r03_Reader_is (X := X) k16) pT) (by kernel_rfl) ?_
        rcases iteE h with ⟨k17, h⟩ | ⟨k17, h⟩
        · obtain ⟨v14, k18, h⟩ := bindE h
          obtain ⟨v15, k19, h⟩ := bindE h
          obtain rfl := retE h
          exact fin (ok X) 7 [.b true, .o [0, 1, 2, 3, 4, 5, 6, 7], .s (r_r03_Reader_name v14) (o_r03_Reader_name v14), .l (List.map e_str v15)] (pA k17 (pA (m_r03_Reader_name (X := X) k18) (pA (apm (L := x3.2.2.2.2.2) (M := [v14.2]) e_str_len k19) pT))) (by kernel_rfl)
        · obtain rfl := retE h
          exact fin (ok X) 2 [.b false] (pA k17 pT) (by kernel_rfl)
      · cases h
      · obtain ⟨v16, k20, h⟩ := bindE h
        obtain ⟨v17, k21, h⟩ := bindE h
        obtain rfl := retE h
        exact fin (ok X) 7 [.s (r_r03_Reader_must v16) (o_r03_Reader_must v16), .s (r_r03_Reader_must v17) (o_r03_Reader_must v17)] (pA (m_r03_Reader_must (X := X) k20) (pA (m_r03_Reader_must (X := X) k21) pT)) (by kernel_rfl)

theorem s_r03_Reader_expr {n : Nat} (ih_r03_Reader_expr : ∀ (a0 : r03_Reader) (a1 : Int) (r : (r03_Reader × r02_Expr)), r03_Reader_exprN n a0 a1 = some r → Cs Tryz.prog (GX X) 68 [xP 0 0, xI a1] [oB 89 (bs (e_r03_Reader a0))] (r_r03_Reader_expr r) (o_r03_Reader_expr r)) (ih_r03_Reader_chain : ∀ (a0 : r03_Reader) (a1 : Int) (a2 : (List ByteArray)) (a3 : Int) (r : (r03_Reader × r02_Expr)), r03_Reader_chainN n a0 a1 a2 a3 = some r → Cs Tryz.prog (GX X) 100 [xP 0 0, xI a1, xL (List.map e_str a2), xI a3] [oB 89 (bs (e_r03_Reader a0))] (r_r03_Reader_chain r) (o_r03_Reader_chain r)) (ih_r03_Reader_factor : ∀ (a0 : r03_Reader) (a1 : Int) (r : (r03_Reader × r02_Expr)), r03_Reader_factorN n a0 a1 = some r → Cs Tryz.prog (GX X) 123 [xP 0 0, xI a1] [oB 89 (bs (e_r03_Reader a0))] (r_r03_Reader_factor r) (o_r03_Reader_factor r)) (a0 : r03_Reader) (a1 : Int) (r : (r03_Reader × r02_Expr)) (h : r03_Reader_exprN (n + 1) a0 a1 = some r) : Cs Tryz.prog (GX X) 68 [xP 0 0, xI a1] [oB 89 (bs (e_r03_Reader a0))] (r_r03_Reader_expr r) (o_r03_Reader_expr r) := by
  refine fnT (cx := cx X) Tryz.f68 Tryz.call68 Tryz.func68 (by kernel_rfl) ?_
  rw [r03_Reader_exprN] at h
  obtain ⟨v1, k1, h⟩ := bindE h
  obtain rfl := retE h
  exact fin (ok X) 5 [.s (r_r03_Reader_chain v1) (o_r03_Reader_chain v1)] (pA (ih_r03_Reader_chain _ _ _ _ _ k1) pT) (by kernel_rfl)

theorem s_r03_Reader_chain {n : Nat} (ih_r03_Reader_expr : ∀ (a0 : r03_Reader) (a1 : Int) (r : (r03_Reader × r02_Expr)), r03_Reader_exprN n a0 a1 = some r → Cs Tryz.prog (GX X) 68 [xP 0 0, xI a1] [oB 89 (bs (e_r03_Reader a0))] (r_r03_Reader_expr r) (o_r03_Reader_expr r)) (ih_r03_Reader_chain : ∀ (a0 : r03_Reader) (a1 : Int) (a2 : (List ByteArray)) (a3 : Int) (r : (r03_Reader × r02_Expr)), r03_Reader_chainN n a0 a1 a2 a3 = some r → Cs Tryz.prog (GX X) 100 [xP 0 0, xI a1, xL (List.map e_str a2), xI a3] [oB 89 (bs (e_r03_Reader a0))] (r_r03_Reader_chain r) (o_r03_Reader_chain r)) (ih_r03_Reader_factor : ∀ (a0 : r03_Reader) (a1 : Int) (r : (r03_Reader × r02_Expr)), r03_Reader_factorN n a0 a1 = some r → Cs Tryz.prog (GX X) 123 [xP 0 0, xI a1] [oB 89 (bs (e_r03_Reader a0))] (r_r03_Reader_factor r) (o_r03_Reader_factor r)) (a0 : r03_Reader) (a1 : Int) (a2 : (List ByteArray)) (a3 : Int) (r : (r03_Reader × r02_Expr)) (h : r03_Reader_chainN (n + 1) a0 a1 a2 a3 = some r) : Cs Tryz.prog (GX X) 100 [xP 0 0, xI a1, xL (List.map e_str a2), xI a3] [oB 89 (bs (e_r03_Reader a0))] (r_r03_Reader_chain r) (o_r03_Reader_chain r) := by
  refine fnT (cx := cx X) Tryz.f100 Tryz.call100 Tryz.func100 (by kernel_rfl) ?_
  rw [r03_Reader_chainN] at h
  rcases iteE h with ⟨k1, h⟩ | ⟨k1, h⟩
  · obtain ⟨v1, k2, h⟩ := bindE h
    refine adv (ok X) 10 [.b true, .s (r_r03_Reader_factor v1) (o_r03_Reader_factor v1)] (pA k1 (pA (ih_r03_Reader_factor _ _ _ k2) pT)) (by kernel_rfl) ?_
    refine lp (ok X) (r03_Reader_chain_l1 (r03_Reader_exprN n) (r03_Reader_chainN n) (r03_Reader_factorN n) a1 a2 a3) (fun (x1 : ((List r01_Token) × Int × Int × Int × Int × Int × Int × ByteArray × (List r02_Expr))) => ⟨66, 1, [(0, [xP 0 0]), (1, [xI a1]), (2, [xL (List.map e_str a2)]), (3, [xI a3]), (8, [xP 1 0]), (9, [xP 2 0])], [oB 89 (bs (e_r03_Reader (r03_Reader.mk x1.1 x1.2.1 x1.2.2.1 x1.2.2.2.1 x1.2.2.2.2.1))), oB 43 [.pv (.int .i64 0), .pv (.int .i64 0), .pv (.str (ByteArray.mk #[])), .emp], oB 43 (bs (f_r02_Expr (r02_Expr.mk x1.2.2.2.2.2.1 x1.2.2.2.2.2.2.1 x1.2.2.2.2.2.2.2.1 x1.2.2.2.2.2.2.2.2)))]⟩) (fun (j1 : ((List r01_Token) × Int × Int × Int × Int × Int × Int × ByteArray × (List r02_Expr))) => ⟨66, 1, [(8, [xP 1 0]), (9, [xP 2 0])], [oB 89 (bs (e_r03_Reader (r03_Reader.mk j1.1 j1.2.1 j1.2.2.1 j1.2.2.2.1 j1.2.2.2.2.1))), oB 43 [.pv (.int .i64 0), .pv (.int .i64 0), .pv (.str (ByteArray.mk #[])), .emp], oB 43 (bs (f_r02_Expr (r02_Expr.mk j1.2.2.2.2.2.1 j1.2.2.2.2.2.2.1 j1.2.2.2.2.2.2.2.1 j1.2.2.2.2.2.2.2.2)))]⟩) R_r03_Reader_chain (v1.1.L, v1.1.I, v1.1.End, v1.1.E, v1.1.At, v1.2.Kind, v1.2.Num, v1.2.Name, v1.2.Kids) (fun _ => ⟨_, _, _, _, rfl⟩) h (by kernel_rfl) (fun x1 o h => ?_) (fun r' h => ?_) (fun j1 h => ?_)
    · unfold r03_Reader_chain_l1 at h
      rcases iteE h with ⟨k3, h⟩ | ⟨k3, h⟩
      · refine adv (ok X) 11 [.b true] (pA k3 pT) (by kernel_rfl) ?_
        refine lp (ok X) (r03_Reader_chain_l2 (r03_Reader_exprN n) (r03_Reader_chainN n) (r03_Reader_factorN n) a2 x1) (fun (x2 : (Int × Int)) => ⟨66, 1, [(0, [xP 0 0]), (1, [xI a1]), (2, [xL (List.map e_str a2)]), (3, [xI a3]), (8, [xP 1 0]), (9, [xP 2 0]), (10, [xI x2.1]), (11, [xI x2.2])], [oB 89 (bs (e_r03_Reader (r03_Reader.mk x1.1 x1.2.1 x1.2.2.1 x1.2.2.2.1 x1.2.2.2.2.1))), oB 43 [.pv (.int .i64 0), .pv (.int .i64 0), .pv (.str (ByteArray.mk #[])), .emp], oB 43 (bs (f_r02_Expr (r02_Expr.mk x1.2.2.2.2.2.1 x1.2.2.2.2.2.2.1 x1.2.2.2.2.2.2.2.1 x1.2.2.2.2.2.2.2.2)))]⟩) (fun (j2 : Int) => ⟨66, 1, [(0, [xP 0 0]), (1, [xI a1]), (2, [xL (List.map e_str a2)]), (3, [xI a3]), (8, [xP 1 0]), (9, [xP 2 0]), (10, [xI j2])], [oB 89 (bs (e_r03_Reader (r03_Reader.mk x1.1 x1.2.1 x1.2.2.1 x1.2.2.2.1 x1.2.2.2.2.1))), oB 43 [.pv (.int .i64 0), .pv (.int .i64 0), .pv (.str (ByteArray.mk #[])), .emp], oB 43 (bs (f_r02_Expr (r02_Expr.mk x1.2.2.2.2.2.1 x1.2.2.2.2.2.2.1 x1.2.2.2.2.2.2.2.1 x1.2.2.2.2.2.2.2.2)))]⟩) R_r03_Reader_chain ((-1), 0) (fun _ => ⟨_, _, _, _, rfl⟩) h (by kernel_rfl) (fun x2 o h => ?_) (fun r' h => ?_) (fun j2 h => ?_)
        · unfold r03_Reader_chain_l2 at h
          refine adv (ok X) 3 [.i (a2.length : Int)] (pA (lm e_str a2) pT) (by kernel_rfl) ?_
          rcases iteE h with ⟨k4, h⟩ | ⟨k4, h⟩
          · refine adv (ok X) 3 [.b true] (pA k4 pT) (by kernel_rfl) ?_
            refine jn (ok X) 1 (fun (j3 : Int) => ⟨66, 1, [(0, [xP 0 0]), (1, [xI a1]), (2, [xL (List.map e_str a2)]), (3, [xI a3]), (8, [xP 1 0]), (9, [xP 2 0]), (10, [xI j3]), (11, [xI x2.2])], [oB 89 (bs (e_r03_Reader (r03_Reader.mk x1.1 x1.2.1 x1.2.2.1 x1.2.2.2.1 x1.2.2.2.2.1))), oB 43 [.pv (.int .i64 0), .pv (.int .i64 0), .pv (.str (ByteArray.mk #[])), .emp], oB 43 (bs (f_r02_Expr (r02_Expr.mk x1.2.2.2.2.2.1 x1.2.2.2.2.2.2.1 x1.2.2.2.2.2.2.2.1 x1.2.2.2.2.2.2.2.2)))]⟩) h (fun j3 h => ?_) (fun j3 h => ?_)
            · obtain ⟨v2, k5, h⟩ := bindE h
              obtain ⟨v3, k6, h⟩ := bindE h
              refine adv (ok X) 3 [.e [.str v2], .s (r_r03_Reader_is v3) (o_r03_Reader_is (r03_Reader.mk x1.1 x1.2.1 x1.2.2.1 x1.2.2.2.1 x1.2.2.2.2.1) v3)] (pA (ixm e_str k5) (pA (m_r03_Reader_is (X := X) k6) pT)) (by kernel_rfl) ?_
              rcases iteE h with ⟨k7, h⟩ | ⟨k7, h⟩
              · obtain rfl := retE h
                exact fin (ok X) 3 [.b true] (pA k7 pT) (by kernel_rfl)
              · obtain rfl := retE h
                exact fin (ok X) 3 [.b false] (pA k7 pT) (by kernel_rfl)
            · obtain rfl := retE h
              exact fin (ok X) 1 [] pT (by kernel_rfl)
          · obtain rfl := retE h
            exact fin (ok X) 2 [.b false] (pA k4 pT) (by kernel_rfl)
        · cases h
        · rcases iteE h with ⟨k8, h⟩ | ⟨k8, h⟩
          · obtain rfl := retE h
            exact fin (ok X) 5 [.b true] (pA k8 pT) (by kernel_rfl)
          · obtain ⟨v4, k9, h⟩ := bindE h
            obtain rfl := retE h
            exact fin (ok X) 16 [.b false, .b true, .s (r_r03_Reader_factor v4) (o_r03_Reader_factor v4), .bl (List.map e_r02_Expr [(r02_Expr.mk x1.2.2.2.2.2.1 x1.2.2.2.2.2.2.1 x1.2.2.2.2.2.2.2.1 x1.2.2.2.2.2.2.2.2), v4.2])] (pA k8 (pA k1 (pA (ih_r03_Reader_factor _ _ _ k9) (pA (blc (e := e_r02_Expr) (x := (r02_Expr.mk x1.2.2.2.2.2.1 x1.2.2.2.2.2.2.1 x1.2.2.2.2.2.2.2.1 x1.2.2.2.2.2.2.2.2)) (e_r02_Expr_eq _).symm (blc (e := e_r02_Expr) (x := v4.2) (e_r02_Expr_eq _).symm (bl0 e_r02_Expr))) pT)))) (by kernel_rfl)
      · obtain rfl := retE h
        exact fin (ok X) 5 [.b false] (pA k3 pT) (by kernel_rfl)
    · cases h
    · obtain rfl := retE h
      exact fin (ok X) 3 [] pT (by kernel_rfl)
  · obtain ⟨v5, k10, h⟩ := bindE h
    refine adv (ok X) 10 [.b false, .s (r_r03_Reader_chain v5) (o_r03_Reader_chain v5)] (pA k1 (pA (ih_r03_Reader_chain _ _ _ _ _ k10) pT)) (by kernel_rfl) ?_
    refine lp (ok X) (r03_Reader_chain_l4 (r03_Reader_exprN n) (r03_Reader_chainN n) (r03_Reader_factorN n) a1 a2 a3) (fun (x4 : ((List r01_Token) × Int × Int × Int × Int × Int × Int × ByteArray × (List r02_Expr))) => ⟨66, 1, [(0, [xP 0 0]), (1, [xI a1]), (2, [xL (List.map e_str a2)]), (3, [xI a3]), (8, [xP 1 0]), (9, [xP 2 0])], [oB 89 (bs (e_r03_Reader (r03_Reader.mk x4.1 x4.2.1 x4.2.2.1 x4.2.2.2.1 x4.2.2.2.2.1))), oB 43 [.pv (.int .i64 0), .pv (.int .i64 0), .pv (.str (ByteArray.mk #[])), .emp], oB 43 (bs (f_r02_Expr (r02_Expr.mk x4.2.2.2.2.2.1 x4.2.2.2.2.2.2.1 x4.2.2.2.2.2.2.2.1 x4.2.2.2.2.2.2.2.2)))]⟩) (fun (j4 : ((List r01_Token) × Int × Int × Int × Int × Int × Int × ByteArray × (List r02_Expr))) => ⟨66, 1, [(8, [xP 1 0]), (9, [xP 2 0])], [oB 89 (bs (e_r03_Reader (r03_Reader.mk j4.1 j4.2.1 j4.2.2.1 j4.2.2.2.1 j4.2.2.2.2.1))), oB 43 [.pv (.int .i64 0), .pv (.int .i64 0), .pv (.str (ByteArray.mk #[])), .emp], oB 43 (bs (f_r02_Expr (r02_Expr.mk j4.2.2.2.2.2.1 j4.2.2.2.2.2.2.1 j4.2.2.2.2.2.2.2.1 j4.2.2.2.2.2.2.2.2)))]⟩) R_r03_Reader_chain (v5.1.L, v5.1.I, v5.1.End, v5.1.E, v5.1.At, v5.2.Kind, v5.2.Num, v5.2.Name, v5.2.Kids) (fun _ => ⟨_, _, _, _, rfl⟩) h (by kernel_rfl) (fun x4 o h => ?_) (fun r' h => ?_) (fun j4 h => ?_)
    · unfold r03_Reader_chain_l4 at h
      rcases iteE h with ⟨k11, h⟩ | ⟨k11, h⟩
      · refine adv (ok X) 11 [.b true] (pA k11 pT) (by kernel_rfl) ?_
        refine lp (ok X) (r03_Reader_chain_l5 (r03_Reader_exprN n) (r03_Reader_chainN n) (r03_Reader_factorN n) a2 x4) (fun (x5 : (Int × Int)) => ⟨66, 1, [(0, [xP 0 0]), (1, [xI a1]), (2, [xL (List.map e_str a2)]), (3, [xI a3]), (8, [xP 1 0]), (9, [xP 2 0]), (10, [xI x5.1]), (11, [xI x5.2])], [oB 89 (bs (e_r03_Reader (r03_Reader.mk x4.1 x4.2.1 x4.2.2.1 x4.2.2.2.1 x4.2.2.2.2.1))), oB 43 [.pv (.int .i64 0), .pv (.int .i64 0), .pv (.str (ByteArray.mk #[])), .emp], oB 43 (bs (f_r02_Expr (r02_Expr.mk x4.2.2.2.2.2.1 x4.2.2.2.2.2.2.1 x4.2.2.2.2.2.2.2.1 x4.2.2.2.2.2.2.2.2)))]⟩) (fun (j5 : Int) => ⟨66, 1, [(0, [xP 0 0]), (1, [xI a1]), (2, [xL (List.map e_str a2)]), (3, [xI a3]), (8, [xP 1 0]), (9, [xP 2 0]), (10, [xI j5])], [oB 89 (bs (e_r03_Reader (r03_Reader.mk x4.1 x4.2.1 x4.2.2.1 x4.2.2.2.1 x4.2.2.2.2.1))), oB 43 [.pv (.int .i64 0), .pv (.int .i64 0), .pv (.str (ByteArray.mk #[])), .emp], oB 43 (bs (f_r02_Expr (r02_Expr.mk x4.2.2.2.2.2.1 x4.2.2.2.2.2.2.1 x4.2.2.2.2.2.2.2.1 x4.2.2.2.2.2.2.2.2)))]⟩) R_r03_Reader_chain ((-1), 0) (fun _ => ⟨_, _, _, _, rfl⟩) h (by kernel_rfl) (fun x5 o h => ?_) (fun r' h => ?_) (fun j5 h => ?_)
        · unfold r03_Reader_chain_l5 at h
          refine adv (ok X) 3 [.i (a2.length : Int)] (pA (lm e_str a2) pT) (by kernel_rfl) ?_
          rcases iteE h with ⟨k12, h⟩ | ⟨k12, h⟩
          · refine adv (ok X) 3 [.b true] (pA k12 pT) (by kernel_rfl) ?_
            refine jn (ok X) 1 (fun (j6 : Int) => ⟨66, 1, [(0, [xP 0 0]), (1, [xI a1]), (2, [xL (List.map e_str a2)]), (3, [xI a3]), (8, [xP 1 0]), (9, [xP 2 0]), (10, [xI j6]), (11, [xI x5.2])], [oB 89 (bs (e_r03_Reader (r03_Reader.mk x4.1 x4.2.1 x4.2.2.1 x4.2.2.2.1 x4.2.2.2.2.1))), oB 43 [.pv (.int .i64 0), .pv (.int .i64 0), .pv (.str (ByteArray.mk #[])), .emp], oB 43 (bs (f_r02_Expr (r02_Expr.mk x4.2.2.2.2.2.1 x4.2.2.2.2.2.2.1 x4.2.2.2.2.2.2.2.1 x4.2.2.2.2.2.2.2.2)))]⟩) h (fun j6 h => ?_) (fun j6 h => ?_)
            · obtain ⟨v6, k13, h⟩ := bindE h
              obtain ⟨v7, k14, h⟩ := bindE h
              refine adv (ok X) 3 [.e [.str v6], .s (r_r03_Reader_is v7) (o_r03_Reader_is (r03_Reader.mk x4.1 x4.2.1 x4.2.2.1 x4.2.2.2.1 x4.2.2.2.2.1) v7)] (pA (ixm e_str k13) (pA (m_r03_Reader_is (X := X) k14) pT)) (by kernel_rfl) ?_
              rcases iteE h with ⟨k15, h⟩ | ⟨k15, h⟩
              · obtain rfl := retE h
                exact fin (ok X) 3 [.b true] (pA k15 pT) (by kernel_rfl)
              · obtain rfl := retE h
                exact fin (ok X) 3 [.b false] (pA k15 pT) (by kernel_rfl)
            · obtain rfl := retE h
              exact fin (ok X) 1 [] pT (by kernel_rfl)
          · obtain rfl := retE h
            exact fin (ok X) 2 [.b false] (pA k12 pT) (by kernel_rfl)
        · cases h
        · rcases iteE h with ⟨k16, h⟩ | ⟨k16, h⟩
          · obtain rfl := retE h
            exact fin (ok X) 5 [.b true] (pA k16 pT) (by kernel_rfl)
          · obtain ⟨v8, k17, h⟩ := bindE h
            obtain rfl := retE h
            exact fin (ok X) 16 [.b false, .b false, .s (r_r03_Reader_chain v8) (o_r03_Reader_chain v8), .bl (List.map e_r02_Expr [(r02_Expr.mk x4.2.2.2.2.2.1 x4.2.2.2.2.2.2.1 x4.2.2.2.2.2.2.2.1 x4.2.2.2.2.2.2.2.2), v8.2])] (pA k16 (pA k1 (pA (ih_r03_Reader_chain _ _ _ _ _ k17) (pA (blc (e := e_r02_Expr) (x := (r02_Expr.mk x4.2.2.2.2.2.1 x4.2.2.2.2.2.2.1 x4.2.2.2.2.2.2.2.1 x4.2.2.2.2.2.2.2.2)) (e_r02_Expr_eq _).symm (blc (e := e_r02_Expr) (x := v8.2) (e_r02_Expr_eq _).symm (bl0 e_r02_Expr))) pT)))) (by kernel_rfl)
      · obtain rfl := retE h
        exact fin (ok X) 5 [.b false] (pA k11 pT) (by kernel_rfl)
    · cases h
    · obtain rfl := retE h
      exact fin (ok X) 3 [] pT (by kernel_rfl)

theorem s_r03_Reader_factor {n : Nat} (ih_r03_Reader_expr : ∀ (a0 : r03_Reader) (a1 : Int) (r : (r03_Reader × r02_Expr)), r03_Reader_exprN n a0 a1 = some r → Cs Tryz.prog (GX X) 68 [xP 0 0, xI a1] [oB 89 (bs (e_r03_Reader a0))] (r_r03_Reader_expr r) (o_r03_Reader_expr r)) (ih_r03_Reader_chain : ∀ (a0 : r03_Reader) (a1 : Int) (a2 : (List ByteArray)) (a3 : Int) (r : (r03_Reader × r02_Expr)), r03_Reader_chainN n a0 a1 a2 a3 = some r → Cs Tryz.prog (GX X) 100 [xP 0 0, xI a1, xL (List.map e_str a2), xI a3] [oB 89 (bs (e_r03_Reader a0))] (r_r03_Reader_chain r) (o_r03_Reader_chain r)) (ih_r03_Reader_factor : ∀ (a0 : r03_Reader) (a1 : Int) (r : (r03_Reader × r02_Expr)), r03_Reader_factorN n a0 a1 = some r → Cs Tryz.prog (GX X) 123 [xP 0 0, xI a1] [oB 89 (bs (e_r03_Reader a0))] (r_r03_Reader_factor r) (o_r03_Reader_factor r)) (a0 : r03_Reader) (a1 : Int) (r : (r03_Reader × r02_Expr)) (h : r03_Reader_factorN (n + 1) a0 a1 = some r) : Cs Tryz.prog (GX X) 123 [xP 0 0, xI a1] [oB 89 (bs (e_r03_Reader a0))] (r_r03_Reader_factor r) (o_r03_Reader_factor r) := by
  refine fnT (cx := cx X) Tryz.f123 Tryz.call123 Tryz.func123 (by kernel_rfl) ?_
  rw [r03_Reader_factorN] at h
  refine adv (ok X) 4 [] pT (by kernel_rfl) ?_
  refine jn (ok X) 1 (fun (j1 : Bool) => ⟨78, 1, [(0, [xP 0 0]), (1, [xI a1]), (4, [xP 1 0]), (12, [xB j1])], [oB 89 (bs (e_r03_Reader a0)), oB 43 [.pv (.int .i64 0), .pv (.int .i64 0), .pv (.str (ByteArray.mk #[])), .emp]]⟩) h (fun j1 h => ?_) (fun j1 h => ?_)
  · obtain ⟨v1, k1, h⟩ := bindE h
    rcases iteE h with ⟨k2, h⟩ | ⟨k2, h⟩
    · obtain rfl := retE h
      exact fin (ok X) 1 [.s (r_r03_Reader_is v1) (o_r03_Reader_is a0 v1), .b true, .b true, .b true] (pA (m_r03_Reader_is (X := X) k1) (pA k2 (pA k2 (pA k2 pT)))) (by kernel_rfl)
    · obtain ⟨v2, k3, h⟩ := bindE h
      obtain rfl := retE h
      exact fin (ok X) 1 [.s (r_r03_Reader_is v1) (o_r03_Reader_is a0 v1), .b false, .b false, .s (r_r03_Reader_is v2) (o_r03_Reader_is a0 v2), .b false] (pA (m_r03_Reader_is (X := X) k1) (pA k2 (pA k2 (pA (m_r03_Reader_is (X := X) k3) (pA k2 pT))))) (by kernel_rfl)
  · rcases iteE h with ⟨k4, h⟩ | ⟨k4, h⟩
    · refine adv (ok X) 4 [.b true] (pA k4 pT) (by kernel_rfl) ?_
      rcases iteE h with ⟨k5, h⟩ | ⟨k5, h⟩
      · obtain ⟨v3, k6, h⟩ := bindE h
        obtain rfl := retE h
        exact fin (ok X) 6 [.b true, .s (r_r03_Reader_fail v3) (o_r03_Reader_fail v3)] (pA k5 (pA (m_r03_Reader_fail (X := X) k6) pT)) (by kernel_rfl)
      · obtain ⟨v4, k7, h⟩ := bindE h
        refine adv (ok X) 9 [.b false, .s (r_r03_Reader_is v4) (o_r03_Reader_is a0 v4)] (pA k5 (pA (m_r03_Reader_is (X := X) k7) pT)) (by kernel_rfl) ?_
        rcases iteE h with ⟨k8, h⟩ | ⟨k8, h⟩
        · obtain ⟨v5, k9, h⟩ := bindE h
          obtain rfl := retE h
          exact fin (ok X) 4 [.b true, .s (r_r03_Reader_factor v5) (o_r03_Reader_factor v5), .bl (List.map e_r02_Expr [v5.2])] (pA k8 (pA (ih_r03_Reader_factor _ _ _ k9) (pA (blc (e := e_r02_Expr) (x := v5.2) (e_r02_Expr_eq _).symm (bl0 e_r02_Expr)) pT))) (by kernel_rfl)
        · obtain ⟨v6, k10, h⟩ := bindE h
          obtain ⟨v7, k11, h⟩ := bindE h
          obtain rfl := retE h
          exact fin (ok X) 9 [.b false, .s (r_r03_Reader_expr v6) (o_r03_Reader_expr v6), .s (r_r03_Reader_must v7) (o_r03_Reader_must v7)] (pA k8 (pA (ih_r03_Reader_expr _ _ _ k10) (pA (m_r03_Reader_must (X := X) k11) pT))) (by kernel_rfl)
    · refine adv (ok X) 4 [.b false] (pA k4 pT) (by kernel_rfl) ?_
      refine jn (ok X) 1 (fun (j2 : Bool) => ⟨78, 1, [(0, [xP 0 0]), (4, [xP 1 0]), (71, [xB j2])], [oB 89 (bs (e_r03_Reader a0)), oB 43 [.pv (.int .i64 0), .pv (.int .i64 0), .pv (.str (ByteArray.mk #[])), .emp]]⟩) h (fun j2 h => ?_) (fun j2 h => ?_)
      · rcases iteE h with ⟨k12, h⟩ | ⟨k12, h⟩
        · rcases iteE h with ⟨k13, h⟩ | ⟨k13, h⟩
          · obtain ⟨v8, k14, h⟩ := bindE h
            obtain rfl := retE h
            exact fin (ok X) 1 [.o [0, 1, 2, 3, 4, 5, 6, 7, 8, 9, 10, 11, 12, 13, 14, 15, 16, 17, 18, 19, 20, 21, 22, 23, 24, 25, 26, 27, 28, 29, 30], .b true, .b true, .b true, .b true, .b true, .b true, .b true, .b true, .b true, .i (a0.L.length : Int), .b true, .b true, .b true, .b true, .b true, .b true, .b true, .b true, .b true, .b true, .b true, .e (e_r01_Token v8), .b true, .b true, .b true, .b true] (pA k12 (pA k12 (pA k12 (pA k12 (pA k12 (pA k12 (pA k12 (pA k12 (pA k12 (pA (lm e_r01_Token a0.L) (pA k12 (pA k12 (pA k13 (pA k13 (pA k13 (pA k13 (pA k13 (pA k13 (pA k13 (pA k13 (pA k13 (pA (ixm e_r01_Token k14) (pA k13 (pA k13 (pA k13 (pA k13 pT)))))))))))))))))))))))))) (by kernel_rfl)
          · obtain rfl := retE h
            exact fin (ok X) 1 [.o [0, 1, 2, 3, 4, 5, 6, 7, 8, 9, 10, 11, 12, 13, 14, 15, 16, 17, 18, 19, 20, 21, 22, 23, 24, 25, 26, 27, 28, 29, 30], .b true, .b true, .b true, .b true, .b true, .b true, .b true, .b true, .b true, .i (a0.L.length : Int), .b true, .b true, .b false, .b false, .b false, .b false, .b false, .b false, .b false, .b false, .b false, .b false, .b false, .b false, .b false] (pA k12 (pA k12 (pA k12 (pA k12 (pA k12 (pA k12 (pA k12 (pA k12 (pA k12 (pA (lm e_r01_Token a0.L) (pA k12 (pA k12 (pA k13 (pA k13 (pA k13 (pA k13 (pA k13 (pA k13 (pA k13 (pA k13 (pA k13 (pA k13 (pA k13 (pA k13 (pA k13 pT))))))))))))))))))))))))) (by kernel_rfl)
        · obtain rfl := retE h
          exact fin (ok X) 1 [.o [0, 1, 2, 3, 4, 5, 6, 7, 8, 9, 10, 11, 12, 13, 14, 15, 16, 17, 18, 19, 20, 21, 22, 23, 24, 25, 26, 27, 28, 29, 30], .b false, .b false, .b false, .b false, .b false, .b false, .b false, .b false, .b false, .b false, .b false, .b false, .b false, .b false, .b false, .b false, .b false, .b false, .b false, .b false, .b false, .b false, .b false, .b false] (pA k12 (pA k12 (pA k12 (pA k12 (pA k12 (pA k12 (pA k12 (pA k12 (pA k12 (pA k12 (pA k12 (pA ff (pA ff (pA ff (pA ff (pA ff (pA ff (pA ff (pA ff (pA ff (pA ff (pA ff (pA ff (pA ff pT)))))))))))))))))))))))) (by kernel_rfl)
      · rcases iteE h with ⟨k15, h⟩ | ⟨k15, h⟩
        · obtain ⟨v9, k16, h⟩ := bindE h
          obtain rfl := retE h
          exact fin (ok X) 4 [.b true, .s (r_r03_Reader_number v9) (o_r03_Reader_number v9)] (pA k15 (pA (m_r03_Reader_number (X := X) k16) pT)) (by kernel_rfl)
        · obtain ⟨v10, k17, h⟩ := bindE h
          obtain rfl := retE h
          exact fin (ok X) 5 [.b false, .s (r_r03_Reader_name v10) (o_r03_Reader_name v10)] (pA k15 (pA (m_r03_Reader_name (X := X) k17) pT)) (by kernel_rfl)

theorem all_r03_Reader_expr : ∀ n : Nat, (∀ (a0 : r03_Reader) (a1 : Int) (r : (r03_Reader × r02_Expr)), r03_Reader_exprN n a0 a1 = some r → Cs Tryz.prog (GX X) 68 [xP 0 0, xI a1] [oB 89 (bs (e_r03_Reader a0))] (r_r03_Reader_expr r) (o_r03_Reader_expr r)) ∧ (∀ (a0 : r03_Reader) (a1 : Int) (a2 : (List ByteArray)) (a3 : Int) (r : (r03_Reader × r02_Expr)), r03_Reader_chainN n a0 a1 a2 a3 = some r → Cs Tryz.prog (GX X) 100 [xP 0 0, xI a1, xL (List.map e_str a2), xI a3] [oB 89 (bs (e_r03_Reader a0))] (r_r03_Reader_chain r) (o_r03_Reader_chain r)) ∧ (∀ (a0 : r03_Reader) (a1 : Int) (r : (r03_Reader × r02_Expr)), r03_Reader_factorN n a0 a1 = some r → Cs Tryz.prog (GX X) 123 [xP 0 0, xI a1] [oB 89 (bs (e_r03_Reader a0))] (r_r03_Reader_factor r) (o_r03_Reader_factor r))
  | 0 => ⟨(fun _ _ _ h => by rw [r03_Reader_exprN] at h; cases h), (fun _ _ _ _ _ h => by rw [r03_Reader_chainN] at h; cases h), (fun _ _ _ h => by rw [r03_Reader_factorN] at h; cases h)⟩
  | n + 1 => by
    have ih := all_r03_Reader_expr n
    exact ⟨s_r03_Reader_expr ih.1 ih.2.1 ih.2.2, s_r03_Reader_chain ih.1 ih.2.1 ih.2.2, s_r03_Reader_factor ih.1 ih.2.1 ih.2.2⟩

theorem m_r03_Reader_expr {a0 : r03_Reader} {a1 : Int} {r : (r03_Reader × r02_Expr)} (h : r03_Reader_expr a0 a1 = some r) : Cs Tryz.prog (GX X) 68 [xP 0 0, xI a1] [oB 89 (bs (e_r03_Reader a0))] (r_r03_Reader_expr r) (o_r03_Reader_expr r) := by
  obtain ⟨n, hn⟩ := unfE h
  exact (all_r03_Reader_expr n).1 _ _ _ hn

theorem m_r03_Reader_cond {a0 : r03_Reader} {r : (r03_Reader × r02_Cond)} (h : r03_Reader_cond a0 = some r) : Cs Tryz.prog (GX X) 66 [xP 0 0] [oB 89 (bs (e_r03_Reader a0))] (r_r03_Reader_cond r) (o_r03_Reader_cond r) := by
  refine fnT (cx := cx X) Tryz.f66 Tryz.call66 Tryz.func66 (by kernel_rfl) ?_
  unfold r03_Reader_cond at h
  obtain ⟨v1, k1, h⟩ := bindE h
  obtain ⟨v2, k2, h⟩ := bindE h
  refine adv (ok X) 11 [.s (r_r03_Reader_must v1) (o_r03_Reader_must v1), .s (r_r03_Reader_expr v2) (o_r03_Reader_expr v2)] (pA (m_r03_Reader_must (X := X) k1) (pA (m_r03_Reader_expr (X := X) k2) pT)) (by kernel_rfl) ?_
  refine lp (ok X) (r03_Reader_cond_l1 v2) (fun (x1 : (Int × r02_Cond)) => ⟨44, 1, [(0, [xP 0 0]), (2, [xP 1 0]), (3, [xP 2 0]), (4, [xL (List.map e_str [(ByteArray.mk #[61, 61]), (ByteArray.mk #[33, 61]), (ByteArray.mk #[60]), (ByteArray.mk #[60, 61]), (ByteArray.mk #[62]), (ByteArray.mk #[62, 61])])]), (5, [xI x1.1])], [oB 89 (bs (e_r03_Reader v2.1)), oB 46 [.pv (.int .i64 0), .pv (.int .i64 0), .pv (.int .i64 0), .pv (.str (ByteArray.mk #[])), .emp, .pv (.int .i64 0), .pv (.int .i64 0), .pv (.str (ByteArray.mk #[])), .emp], oB 46 (bs (e_r02_Cond x1.2))]⟩) (fun (j1 : r02_Cond) => ⟨44, 1, [(0, [xP 0 0]), (2, [xP 1 0]), (3, [xP 2 0])], [oB 89 (bs (e_r03_Reader v2.1)), oB 46 [.pv (.int .i64 0), .pv (.int .i64 0), .pv (.int .i64 0), .pv (.str (ByteArray.mk #[])), .emp, .pv (.int .i64 0), .pv (.int .i64 0), .pv (.str (ByteArray.mk #[])), .emp], oB 46 (bs (e_r02_Cond j1))]⟩) R_r03_Reader_cond (0, (r02_Cond.mk 0 v2.2 (r02_Expr.mk 0 0 (ByteArray.mk #[]) []))) (fun _ => ⟨_, _, _, _, rfl⟩) h (by kernel_rfl) (fun x1 o h => ?_) (fun r' h => ?_) (fun j1 h => ?_)
  · unfold r03_Reader_cond_l1 at h
    rcases iteE h with ⟨k3, h⟩ | ⟨k3, h⟩
    · refine adv (ok X) 6 [.b true] (pA k3 pT) (by kernel_rfl) ?_
      refine jn (ok X) 1 (fun (j2 : Int) => ⟨44, 1, [(0, [xP 0 0]), (2, [xP 1 0]), (3, [xP 2 0]), (4, [xL (List.map e_str [(ByteArray.mk #[61, 61]), (ByteArray.mk #[33, 61]), (ByteArray.mk #[60]), (ByteArray.mk #[60, 61]), (ByteArray.mk #[62]), (ByteArray.mk #[62, 61])])]), (5, [xI x1.1])], [oB 89 (bs (e_r03_Reader v2.1)), oB 46 [.pv (.int .i64 0), .pv (.int .i64 0), .pv (.int .i64 0), .pv (.str (ByteArray.mk #[])), .emp, .pv (.int .i64 0), .pv (.int .i64 0), .pv (.str (ByteArray.mk #[])), .emp], oB 46 (bs (e_r02_Cond (r02_Cond.mk j2 x1.2.L x1.2.R)))]⟩) h (fun j2 h => ?_) (fun j2 h => ?_)
      · obtain ⟨v3, k4, h⟩ := bindE h
        obtain ⟨v4, k5, h⟩ := bindE h
        refine adv (ok X) 3 [.e [.str v3], .s (r_r03_Reader_is v4) (o_r03_Reader_is v2.1 v4)] (pA (ixm e_str k4) (pA (m_r03_Reader_is (X := X) k5) pT)) (by kernel_rfl) ?_
        rcases iteE h with ⟨k6, h⟩ | ⟨k6, h⟩
        · obtain rfl := retE h
          exact fin (ok X) 3 [.b true] (pA k6 pT) (by kernel_rfl)
        · obtain rfl := retE h
          exact fin (ok X) 3 [.b false] (pA k6 pT) (by kernel_rfl)
      · obtain rfl := retE h
        exact fin (ok X) 1 [] pT (by kernel_rfl)
    · obtain rfl := retE h
      exact fin (ok X) 5 [.b false] (pA k3 pT) (by kernel_rfl)
  · cases h
  · rcases iteE h with ⟨k7, h⟩ | ⟨k7, h⟩
    · obtain ⟨v5, k8, h⟩ := bindE h
      obtain rfl := retE h
      exact fin (ok X) 9 [.b true, .s (r_r03_Reader_fail v5) (o_r03_Reader_fail v5)] (pA k7 (pA (m_r03_Reader_fail (X := X) k8) pT)) (by kernel_rfl)
    · obtain ⟨v6, k9, h⟩ := bindE h
      obtain ⟨v7, k10, h⟩ := bindE h
      obtain rfl := retE h
      exact fin (ok X) 14 [.b false, .s (r_r03_Reader_expr v6) (o_r03_Reader_expr v6), .s (r_r03_Reader_must v7) (o_r03_Reader_must v7)] (pA k7 (pA (m_r03_Reader_expr (X := X) k9) (pA (m_r03_Reader_must (X := X) k10) pT))) (by kernel_rfl)

theorem s_r03_Reader_stmts {n : Nat} (ih_r03_Reader_stmts : ∀ (a0 : r03_Reader) (a1 : Int) (r : (r03_Reader × (List r02_Stmt))), r03_Reader_stmtsN n a0 a1 = some r → Cs Tryz.prog (GX X) 31 [xP 0 0, xI a1] [oB 89 (bs (e_r03_Reader a0))] (r_r03_Reader_stmts r) (o_r03_Reader_stmts r)) (ih_r03_Reader_block : ∀ (a0 : r03_Reader) (a1 : Int) (r : (r03_Reader × (List r02_Stmt))), r03_Reader_blockN n a0 a1 = some r → Cs Tryz.prog (GX X) 67 [xP 0 0, xI a1] [oB 89 (bs (e_r03_Reader a0))] (r_r03_Reader_block r) (o_r03_Reader_block r)) (a0 : r03_Reader) (a1 : Int) (r : (r03_Reader × (List r02_Stmt))) (h : r03_Reader_stmtsN (n + 1) a0 a1 = some r) : Cs Tryz.prog (GX X) 31 [xP 0 0, xI a1] [oB 89 (bs (e_r03_Reader a0))] (r_r03_Reader_stmts r) (o_r03_Reader_stmts r) := by
  refine fnT (cx := cx X) Tryz.f31 Tryz.call31 Tryz.func31 (by kernel_rfl) ?_
  rw [r03_Reader_stmtsN] at h
  refine adv (ok X) 5 [] pT (by kernel_rfl) ?_
  refine lp (ok X) (r03_Reader_stmts_l1 (r03_Reader_stmtsN n) (r03_Reader_blockN n) a1) (fun (x1 : ((List r01_Token) × Int × Int × Int × Int × (List r02_Stmt))) => ⟨218, 1, [(0, [xP 0 0]), (1, [xI a1]), (5, [xR 1])], [oB 89 (bs (e_r03_Reader (r03_Reader.mk x1.1 x1.2.1 x1.2.2.1 x1.2.2.2.1 x1.2.2.2.2.1))), oR true 50 19 (List.map e_r02_Stmt x1.2.2.2.2.2)]⟩) (fun (j1 : ((List r01_Token) × Int × Int × Int × Int × (List r02_Stmt))) => ⟨218, 1, [(5, [xR 1])], [oB 89 (bs (e_r03_Reader (r03_Reader.mk j1.1 j1.2.1 j1.2.2.1 j1.2.2.2.1 j1.2.2.2.2.1))), oR true 50 19 (List.map e_r02_Stmt j1.2.2.2.2.2)]⟩) R_r03_Reader_stmts (a0.L, a0.I, a0.End, a0.E, a0.At, []) (fun _ => ⟨_, _, _, _, rfl⟩) h (by kernel_rfl) (fun x1 o h => ?_) (fun r' h => ?_) (fun j1 h => ?_)
  · unfold r03_Reader_stmts_l1 at h
    rcases iteE h with ⟨k1, h⟩ | ⟨k1, h⟩
    · refine adv (ok X) 9 [.b true] (pA k1 pT) (by kernel_rfl) ?_
      refine jr (ok X) 1 (fun (j2 : ((List r01_Token) × Int × Int × Int × Int × r02_Stmt × (List r02_Arm))) => ⟨218, 1, [(0, [xP 0 0]), (1, [xI a1]), (5, [xR 1]), (6, [xP 2 0])], [oB 89 (bs (e_r03_Reader (r03_Reader.mk j2.1 j2.2.1 j2.2.2.1 j2.2.2.2.1 j2.2.2.2.2.1))), oR true 50 19 (List.map e_r02_Stmt x1.2.2.2.2.2), oB 50 [.pv (.int .i64 j2.2.2.2.2.2.1.Kind), .pv (.str j2.2.2.2.2.2.1.Name), .pv (.str j2.2.2.2.2.2.1.Tag), .pv (.int .i64 j2.2.2.2.2.2.1.E.Kind), .pv (.int .i64 j2.2.2.2.2.2.1.E.Num), .pv (.str j2.2.2.2.2.2.1.E.Name), .pv (.sl (List.map e_r02_Expr j2.2.2.2.2.2.1.E.Kids)), .pv (.int .i64 j2.2.2.2.2.2.1.C.Op), .pv (.int .i64 j2.2.2.2.2.2.1.C.L.Kind), .pv (.int .i64 j2.2.2.2.2.2.1.C.L.Num), .pv (.str j2.2.2.2.2.2.1.C.L.Name), .pv (.sl (List.map e_r02_Expr j2.2.2.2.2.2.1.C.L.Kids)), .pv (.int .i64 j2.2.2.2.2.2.1.C.R.Kind), .pv (.int .i64 j2.2.2.2.2.2.1.C.R.Num), .pv (.str j2.2.2.2.2.2.1.C.R.Name), .pv (.sl (List.map e_r02_Expr j2.2.2.2.2.2.1.C.R.Kids)), .pv (.sl (List.map e_r02_Stmt j2.2.2.2.2.2.1.Body)), .pv (.sl (List.map e_r02_Stmt j2.2.2.2.2.2.1.Else)), .row 3], oR true 151 3 (List.map e_r02_Arm j2.2.2.2.2.2.2)]⟩) R_r03_Reader_stmts (fun _ => ⟨_, _, _, _, rfl⟩) h (fun o h => ?_) (fun r' h => ?_) (fun j2 h => ?_)
      · obtain ⟨v1, k2, h⟩ := bindE h
        refine adv (ok X) 3 [.s (r_r03_Reader_is v1) (o_r03_Reader_is (r03_Reader.mk x1.1 x1.2.1 x1.2.2.1 x1.2.2.2.1 x1.2.2.2.2.1) v1)] (pA (m_r03_Reader_is (X := X) k2) pT) (by kernel_rfl) ?_
        rcases iteE h with ⟨k3, h⟩ | ⟨k3, h⟩
        · obtain ⟨v2, k4, h⟩ := bindE h
          obtain ⟨v3, k5, h⟩ := bindE h
          obtain ⟨v4, k6, h⟩ := bindE h
          refine adv (ok X) 9 [.b true, .s (r_r03_Reader_cond v2) (o_r03_Reader_cond v2), .s (r_r03_Reader_block v3) (o_r03_Reader_block v3), .s (r_r03_Reader_is v4) (o_r03_Reader_is v3.1 v4)] (pA k3 (pA (m_r03_Reader_cond (X := X) k4) (pA (ih_r03_Reader_block _ _ _ k5) (pA (m_r03_Reader_is (X := X) k6) pT)))) (by kernel_rfl) ?_
          rcases iteE h with ⟨k7, h⟩ | ⟨k7, h⟩
          · obtain ⟨v5, k8, h⟩ := bindE h
            obtain rfl := retE h
            exact fin (ok X) 5 [.b true, .s (r_r03_Reader_block v5) (o_r03_Reader_block v5)] (pA k7 (pA (ih_r03_Reader_block _ _ _ k8) pT)) (by kernel_rfl)
          · obtain rfl := retE h
            exact fin (ok X) 3 [.b false] (pA k7 pT) (by kernel_rfl)
        · obtain ⟨v6, k9, h⟩ := bindE h
          refine adv (ok X) 3 [.b false, .s (r_r03_Reader_is v6) (o_r03_Reader_is (r03_Reader.mk x1.1 x1.2.1 x1.2.2.1 x1.2.2.2.1 x1.2.2.2.2.1) v6)] (pA k3 (pA (m_r03_Reader_is (X := X) k9) pT)) (by kernel_rfl) ?_
          rcases iteE h with ⟨k10, h⟩ | ⟨k10, h⟩
          · obtain ⟨v7, k11, h⟩ := bindE h
            obtain ⟨v8, k12, h⟩ := bindE h
            obtain rfl := retE h
            exact fin (ok X) 7 [.b true, .s (r_r03_Reader_cond v7) (o_r03_Reader_cond v7), .s (r_r03_Reader_block v8) (o_r03_Reader_block v8)] (pA k10 (pA (m_r03_Reader_cond (X := X) k11) (pA (ih_r03_Reader_block _ _ _ k12) pT))) (by kernel_rfl)
          · obtain ⟨v9, k13, h⟩ := bindE h
            refine adv (ok X) 3 [.b false, .s (r_r03_Reader_is v9) (o_r03_Reader_is (r03_Reader.mk x1.1 x1.2.1 x1.2.2.1 x1.2.2.2.1 x1.2.2.2.2.1) v9)] (pA k10 (pA (m_r03_Reader_is (X := X) k13) pT)) (by kernel_rfl) ?_
            rcases iteE h with ⟨k14, h⟩ | ⟨k14, h⟩
            · obtain ⟨v10, k15, h⟩ := bindE h
              obtain ⟨v11, k16, h⟩ := bindE h
              obtain ⟨v12, k17, h⟩ := bindE h
              obtain ⟨v13, k18, h⟩ := bindE h
              obtain ⟨v14, k19, h⟩ := bindE h
              obtain ⟨v15, k20, h⟩ := bindE h
              obtain ⟨v16, k21, h⟩ := bindE h
              obtain rfl := retE h
              exact fin (ok X) 17 [.b true, .s (r_r03_Reader_name v10) (o_r03_Reader_name v10), .s (r_r03_Reader_must v11) (o_r03_Reader_must v11), .s (r_r03_Reader_name v12) (o_r03_Reader_name v12), .s (r_r03_Reader_must v13) (o_r03_Reader_must v13), .s (r_r03_Reader_expr v14) (o_r03_Reader_expr v14), .s (r_r03_Reader_must v15) (o_r03_Reader_must v15), .s (r_r03_Reader_must v16) (o_r03_Reader_must v16)] (pA k14 (pA (m_r03_Reader_name (X := X) k15) (pA (m_r03_Reader_must (X := X) k16) (pA (m_r03_Reader_name (X := X) k17) (pA (m_r03_Reader_must (X := X) k18) (pA (m_r03_Reader_expr (X := X) k19) (pA (m_r03_Reader_must (X := X) k20) (pA (m_r03_Reader_must (X := X) k21) pT)))))))) (by kernel_rfl)
            · obtain ⟨v17, k22, h⟩ := bindE h
              refine adv (ok X) 3 [.b false, .s (r_r03_Reader_is v17) (o_r03_Reader_is (r03_Reader.mk x1.1 x1.2.1 x1.2.2.1 x1.2.2.2.1 x1.2.2.2.2.1) v17)] (pA k14 (pA (m_r03_Reader_is (X := X) k22) pT)) (by kernel_rfl) ?_
              rcases iteE h with ⟨k23, h⟩ | ⟨k23, h⟩
              · obtain ⟨v18, k24, h⟩ := bindE h
                obtain ⟨v19, k25, h⟩ := bindE h
                refine adv (ok X) 8 [.b true, .s (r_r03_Reader_name v18) (o_r03_Reader_name v18), .s (r_r03_Reader_must v19) (o_r03_Reader_must v19)] (pA k23 (pA (m_r03_Reader_name (X := X) k24) (pA (m_r03_Reader_must (X := X) k25) pT))) (by kernel_rfl) ?_
                refine lp (ok X) (r03_Reader_stmts_l3 (r03_Reader_stmtsN n) (r03_Reader_blockN n) a1) (fun (x3 : ((List r01_Token) × Int × Int × Int × Int × (List r02_Arm))) => ⟨218, 1, [(0, [xP 0 0]), (1, [xI a1]), (5, [xR 1]), (6, [xP 2 0])], [oB 89 (bs (e_r03_Reader (r03_Reader.mk x3.1 x3.2.1 x3.2.2.1 x3.2.2.2.1 x3.2.2.2.2.1))), oR true 50 19 (List.map e_r02_Stmt x1.2.2.2.2.2), oB 50 [.pv (.int .i64 5), .pv (.str v18.2), .pv (.str (ByteArray.mk #[])), .pv (.int .i64 0), .pv (.int .i64 0), .pv (.str (ByteArray.mk #[])), .emp, .pv (.int .i64 0), .pv (.int .i64 0), .pv (.int .i64 0), .pv (.str (ByteArray.mk #[])), .emp, .pv (.int .i64 0), .pv (.int .i64 0), .pv (.str (ByteArray.mk #[])), .emp, .emp, .emp, .row 3], oR true 151 3 (List.map e_r02_Arm x3.2.2.2.2.2)]⟩) (fun (j3 : ((List r01_Token) × Int × Int × Int × Int × (List r02_Arm))) => ⟨218, 1, [(0, [xP 0 0]), (1, [xI a1]), (5, [xR 1]), (6, [xP 2 0])], [oB 89 (bs (e_r03_Reader (r03_Reader.mk j3.1 j3.2.1 j3.2.2.1 j3.2.2.2.1 j3.2.2.2.2.1))), oR true 50 19 (List.map e_r02_Stmt x1.2.2.2.2.2), oB 50 [.pv (.int .i64 5), .pv (.str v18.2), .pv (.str (ByteArray.mk #[])), .pv (.int .i64 0), .pv (.int .i64 0), .pv (.str (ByteArray.mk #[])), .emp, .pv (.int .i64 0), .pv (.int .i64 0), .pv (.int .i64 0), .pv (.str (ByteArray.mk #[])), .emp, .pv (.int .i64 0), .pv (.int .i64 0), .pv (.str (ByteArray.mk #[])), .emp, .emp, .emp, .row 3], oR true 151 3 (List.map e_r02_Arm j3.2.2.2.2.2)]⟩) R_r03_Reader_stmts (v19.L, v19.I, v19.End, v19.E, v19.At, []) (fun _ => ⟨_, _, _, _, rfl⟩) h (by kernel_rfl) (fun x3 o h => ?_) (fun r' h => ?_) (fun j3 h => ?_)
                · unfold r03_Reader_stmts_l3 at h
                  refine adv (ok X) 2 [] pT (by kernel_rfl) ?_
                  refine jn (ok X) 1 (fun (j4 : Bool) => ⟨218, 1, [(0, [xP 0 0]), (1, [xI a1]), (5, [xR 1]), (6, [xP 2 0]), (122, [xB j4])], [oB 89 (bs (e_r03_Reader (r03_Reader.mk x3.1 x3.2.1 x3.2.2.1 x3.2.2.2.1 x3.2.2.2.2.1))), oR true 50 19 (List.map e_r02_Stmt x1.2.2.2.2.2), oB 50 [.pv (.int .i64 5), .pv (.str v18.2), .pv (.str (ByteArray.mk #[])), .pv (.int .i64 0), .pv (.int .i64 0), .pv (.str (ByteArray.mk #[])), .emp, .pv (.int .i64 0), .pv (.int .i64 0), .pv (.int .i64 0), .pv (.str (ByteArray.mk #[])), .emp, .pv (.int .i64 0), .pv (.int .i64 0), .pv (.str (ByteArray.mk #[])), .emp, .emp, .emp, .row 3], oR true 151 3 (List.map e_r02_Arm x3.2.2.2.2.2)]⟩) h (fun j4 h => ?_) (fun j4 h => ?_)
                  · rcases iteE h with ⟨k26, h⟩ | ⟨k26, h⟩
                    · rcases iteE h with ⟨k27, h⟩ | ⟨k27, h⟩
                      · obtain rfl := retE h
                        exact fin (ok X) 1 [.b true, .b true, .b true, .i (x3.2.2.2.2.2.length : Int), .b true, .b true, .b true, .b true, .b true, .b true, .b true, .b true] (pA k26 (pA k26 (pA k26 (pA (lm e_r02_Arm x3.2.2.2.2.2) (pA k26 (pA k26 (pA k27 (pA k27 (pA k27 (pA k26 (pA k27 (pA k26 pT)))))))))))) (by kernel_rfl)
                      · obtain ⟨v20, k28, h⟩ := bindE h
                        obtain rfl := retE h
                        exact fin (ok X) 1 [.b true, .b true, .b true, .i (x3.2.2.2.2.2.length : Int), .b true, .b true, .b false, .b false, .s (r_r03_Reader_is v20) (o_r03_Reader_is (r03_Reader.mk x3.1 x3.2.1 x3.2.2.1 x3.2.2.2.1 x3.2.2.2.2.1) v20), .b false, .b true, .b false, .b true] (pA k26 (pA k26 (pA k26 (pA (lm e_r02_Arm x3.2.2.2.2.2) (pA k26 (pA k26 (pA k27 (pA k27 (pA (m_r03_Reader_is (X := X) k28) (pA k27 (pA k26 (pA k27 (pA k26 pT))))))))))))) (by kernel_rfl)
                    · obtain rfl := retE h
                      exact fin (ok X) 1 [.b false, .b false, .b false, .b false, .b false, .b false, .b false] (pA k26 (pA k26 (pA k26 (pA k26 (pA k26 (pA k26 (pA k26 pT))))))) (by kernel_rfl)
                  · rcases iteE h with ⟨k29, h⟩ | ⟨k29, h⟩
                    · obtain ⟨v21, k30, h⟩ := bindE h
                      obtain ⟨v22, k31, h⟩ := bindE h
                      obtain ⟨v23, k32, h⟩ := bindE h
                      obtain ⟨v24, k33, h⟩ := bindE h
                      obtain ⟨v25, k34, h⟩ := bindE h
                      obtain ⟨v26, k35, h⟩ := bindE h
                      obtain rfl := retE h
                      exact fin (ok X) 17 [.b true, .s (r_r03_Reader_name v21) (o_r03_Reader_name v21), .s (r_r03_Reader_must v22) (o_r03_Reader_must v22), .s (r_r03_Reader_name v23) (o_r03_Reader_name v23), .s (r_r03_Reader_must v24) (o_r03_Reader_must v24), .s (r_r03_Reader_block v25) (o_r03_Reader_block v25), .bl (List.map e_r02_Arm [(r02_Arm.mk v21.2 v23.2 v25.2)]), .l (List.map e_r02_Arm v26)] (pA k29 (pA (m_r03_Reader_name (X := X) k30) (pA (m_r03_Reader_must (X := X) k31) (pA (m_r03_Reader_name (X := X) k32) (pA (m_r03_Reader_must (X := X) k33) (pA (ih_r03_Reader_block _ _ _ k34) (pA (blc (e := e_r02_Arm) (x := (r02_Arm.mk v21.2 v23.2 v25.2)) (e_r02_Arm_eq _).symm (bl0 e_r02_Arm)) (pA (apm (L := x3.2.2.2.2.2) (M := [(r02_Arm.mk v21.2 v23.2 v25.2)]) e_r02_Arm_len k35) pT)))))))) (by kernel_rfl)
                    · obtain rfl := retE h
                      exact fin (ok X) 2 [.b false] (pA k29 pT) (by kernel_rfl)
                · cases h
                · obtain ⟨v27, k36, h⟩ := bindE h
                  obtain rfl := retE h
                  exact fin (ok X) 2 [.s (r_r03_Reader_must v27) (o_r03_Reader_must v27)] (pA (m_r03_Reader_must (X := X) k36) pT) (by kernel_rfl)
              · obtain ⟨v28, k37, h⟩ := bindE h
                refine adv (ok X) 3 [.b false, .s (r_r03_Reader_is v28) (o_r03_Reader_is (r03_Reader.mk x1.1 x1.2.1 x1.2.2.1 x1.2.2.2.1 x1.2.2.2.2.1) v28)] (pA k23 (pA (m_r03_Reader_is (X := X) k37) pT)) (by kernel_rfl) ?_
                rcases iteE h with ⟨k38, h⟩ | ⟨k38, h⟩
                · obtain ⟨v29, k39, h⟩ := bindE h
                  obtain ⟨v30, k40, h⟩ := bindE h
                  obtain rfl := retE h
                  exact fin (ok X) 7 [.b true, .s (r_r03_Reader_cond v29) (o_r03_Reader_cond v29), .s (r_r03_Reader_must v30) (o_r03_Reader_must v30)] (pA k38 (pA (m_r03_Reader_cond (X := X) k39) (pA (m_r03_Reader_must (X := X) k40) pT))) (by kernel_rfl)
                · obtain ⟨v31, k41, h⟩ := bindE h
                  refine adv (ok X) 3 [.b false, .s (r_r03_Reader_is v31) (o_r03_Reader_is (r03_Reader.mk x1.1 x1.2.1 x1.2.2.1 x1.2.2.2.1 x1.2.2.2.2.1) v31)] (pA k38 (pA (m_r03_Reader_is (X := X) k41) pT)) (by kernel_rfl) ?_
                  rcases iteE h with ⟨k42, h⟩ | ⟨k42, h⟩
                  · obtain ⟨v32, k43, h⟩ := bindE h
                    obtain ⟨v33, k44, h⟩ := bindE h
                    obtain rfl := retE h
                    exact fin (ok X) 7 [.b true, .s (r_r03_Reader_name v32) (o_r03_Reader_name v32), .s (r_r03_Reader_must v33) (o_r03_Reader_must v33)] (pA k42 (pA (m_r03_Reader_name (X := X) k43) (pA (m_r03_Reader_must (X := X) k44) pT))) (by kernel_rfl)
                  · refine adv (ok X) 2 [.b false] (pA k42 pT) (by kernel_rfl) ?_
                    refine jn (ok X) 1 (fun (j5 : Bool) => ⟨218, 1, [(0, [xP 0 0]), (1, [xI a1]), (5, [xR 1]), (6, [xP 2 0]), (177, [xB j5])], [oB 89 (bs (e_r03_Reader (r03_Reader.mk x1.1 x1.2.1 x1.2.2.1 x1.2.2.2.1 x1.2.2.2.2.1))), oR true 50 19 (List.map e_r02_Stmt x1.2.2.2.2.2), oB 50 [.pv (.int .i64 0), .pv (.str (ByteArray.mk #[])), .pv (.str (ByteArray.mk #[])), .pv (.int .i64 0), .pv (.int .i64 0), .pv (.str (ByteArray.mk #[])), .emp, .pv (.int .i64 0), .pv (.int .i64 0), .pv (.int .i64 0), .pv (.str (ByteArray.mk #[])), .emp, .pv (.int .i64 0), .pv (.int .i64 0), .pv (.str (ByteArray.mk #[])), .emp, .emp, .emp, .emp]]⟩) h (fun j5 h => ?_) (fun j5 h => ?_)
                    · rcases iteE h with ⟨k45, h⟩ | ⟨k45, h⟩
                      · obtain ⟨v34, k46, h⟩ := bindE h
                        obtain rfl := retE h
                        exact fin (ok X) 1 [.o [0, 1, 2, 3, 4, 5, 6, 7, 8, 9, 10, 11, 12, 13, 14, 15, 16, 17, 18, 19, 20, 21, 22, 23, 24], .i (x1.1.length : Int), .b true, .b true, .b true, .b true, .b true, .b true, .b true, .b true, .b true, .e (e_r01_Token v34), .b true, .b true, .b true, .b true] (pA (lm e_r01_Token x1.1) (pA k45 (pA k45 (pA k45 (pA k45 (pA k45 (pA k45 (pA k45 (pA k45 (pA k45 (pA (ixm e_r01_Token k46) (pA k45 (pA k45 (pA k45 (pA k45 pT))))))))))))))) (by kernel_rfl)
                      · obtain rfl := retE h
                        exact fin (ok X) 1 [.o [0, 1, 2, 3, 4, 5, 6, 7, 8, 9, 10, 11, 12, 13, 14, 15, 16, 17, 18, 19, 20, 21, 22, 23, 24], .i (x1.1.length : Int), .b false, .b false, .b false, .b false, .b false, .b false, .b false, .b false, .b false, .b false, .b false, .b false, .b false] (pA (lm e_r01_Token x1.1) (pA k45 (pA k45 (pA k45 (pA k45 (pA k45 (pA k45 (pA k45 (pA k45 (pA k45 (pA k45 (pA k45 (pA k45 (pA k45 pT)))))))))))))) (by kernel_rfl)
                    · rcases iteE h with ⟨k47, h⟩ | ⟨k47, h⟩
                      · obtain ⟨v35, k48, h⟩ := bindE h
                        obtain ⟨v36, k49, h⟩ := bindE h
                        obtain ⟨v37, k50, h⟩ := bindE h
                        obtain ⟨v38, k51, h⟩ := bindE h
                        obtain rfl := retE h
                        exact fin (ok X) 9 [.b true, .s (r_r03_Reader_name v35) (o_r03_Reader_name v35), .s (r_r03_Reader_must v36) (o_r03_Reader_must v36), .s (r_r03_Reader_expr v37) (o_r03_Reader_expr v37), .s (r_r03_Reader_must v38) (o_r03_Reader_must v38)] (pA k47 (pA (m_r03_Reader_name (X := X) k48) (pA (m_r03_Reader_must (X := X) k49) (pA (m_r03_Reader_expr (X := X) k50) (pA (m_r03_Reader_must (X := X) k51) pT))))) (by kernel_rfl)
                      · obtain rfl := retE h
                        exact fin (ok X) 4 [.b false] (pA k47 pT) (by kernel_rfl)
      · obtain rfl := retE h
        kernel_rfl
      · obtain ⟨v39, k52, h⟩ := bindE h
        obtain rfl := retE h
        exact fin (ok X) 2 [.z (.fz 3), .bl (List.map e_r02_Stmt [(r02_Stmt.mk j2.2.2.2.2.2.1.Kind j2.2.2.2.2.2.1.Name j2.2.2.2.2.2.1.Tag j2.2.2.2.2.2.1.E j2.2.2.2.2.2.1.C j2.2.2.2.2.2.1.Body j2.2.2.2.2.2.1.Else j2.2.2.2.2.2.2)]), .l (List.map e_r02_Stmt v39)] (pA (blc (e := e_r02_Stmt) (x := (r02_Stmt.mk j2.2.2.2.2.2.1.Kind j2.2.2.2.2.2.1.Name j2.2.2.2.2.2.1.Tag j2.2.2.2.2.2.1.E j2.2.2.2.2.2.1.C j2.2.2.2.2.2.1.Body j2.2.2.2.2.2.1.Else j2.2.2.2.2.2.2)) (e_r02_Stmt_eq _).symm (bl0 e_r02_Stmt)) (pA (apm (L := x1.2.2.2.2.2) (M := [(r02_Stmt.mk j2.2.2.2.2.2.1.Kind j2.2.2.2.2.2.1.Name j2.2.2.2.2.2.1.Tag j2.2.2.2.2.2.1.E j2.2.2.2.2.2.1.C j2.2.2.2.2.2.1.Body j2.2.2.2.2.2.1.Else j2.2.2.2.2.2.2)]) e_r02_Stmt_len k52) pT)) (by kernel_rfl)
    · obtain rfl := retE h
      exact fin (ok X) 5 [.b false] (pA k1 pT) (by kernel_rfl)
  · obtain rfl := retE h
    kernel_rfl
  · obtain rfl := retE h
    exact fin (ok X) 3 [] pT (by kernel_rfl)

theorem s_r03_Reader_block {n : Nat} (ih_r03_Reader_stmts : ∀ (a0 : r03_Reader) (a1 : Int) (r : (r03_Reader × (List r02_Stmt))), r03_Reader_stmtsN n a0 a1 = some r → Cs Tryz.prog (GX X) 31 [xP 0 0, xI a1] [oB 89 (bs (e_r03_Reader a0))] (r_r03_Reader_stmts r) (o_r03_Reader_stmts r)) (ih_r03_Reader_block : ∀ (a0 : r03_Reader) (a1 : Int) (r : (r03_Reader × (List r02_Stmt))), r03_Reader_blockN n a0 a1 = some r → Cs Tryz.prog (GX X) 67 [xP 0 0, xI a1] [oB 89 (bs (e_r03_Reader a0))] (r_r03_Reader_block r) (o_r03_Reader_block r)) (a0 : r03_Reader) (a1 : Int) (r : (r03_Reader × (List r02_Stmt))) (h : r03_Reader_blockN (n + 1) a0 a1 = some r) : Cs Tryz.prog (GX X) 67 [xP 0 0, xI a1] [oB 89 (bs (e_r03_Reader a0))] (r_r03_Reader_block r) (o_r03_Reader_block r) := by
  refine fnT (cx := cx X) Tryz.f67 Tryz.call67 Tryz.func67 (by kernel_rfl) ?_
  rw [r03_Reader_blockN] at h
  refine adv (ok X) 4 [] pT (by kernel_rfl) ?_
  refine jn (ok X) 1 (fun (j1 : Bool) => ⟨23, 1, [(0, [xP 0 0]), (1, [xI a1]), (11, [xB j1])], [oB 89 (bs (e_r03_Reader a0))]⟩) h (fun j1 h => ?_) (fun j1 h => ?_)
  · obtain ⟨v1, k1, h⟩ := bindE h
    rcases iteE h with ⟨k2, h⟩ | ⟨k2, h⟩
    · obtain rfl := retE h
      exact fin (ok X) 1 [.s (r_r03_Reader_is v1) (o_r03_Reader_is a0 v1), .b true, .b true, .b true] (pA (m_r03_Reader_is (X := X) k1) (pA k2 (pA k2 (pA k2 pT)))) (by kernel_rfl)
    · obtain rfl := retE h
      exact fin (ok X) 1 [.s (r_r03_Reader_is v1) (o_r03_Reader_is a0 v1), .b false, .b false, .b false] (pA (m_r03_Reader_is (X := X) k1) (pA k2 (pA k2 (pA k2 pT)))) (by kernel_rfl)
  · rcases iteE h with ⟨k3, h⟩ | ⟨k3, h⟩
    · obtain ⟨v2, k4, h⟩ := bindE h
      obtain rfl := retE h
      exact fin (ok X) 6 [.b true, .s (r_r03_Reader_fail v2) (o_r03_Reader_fail v2)] (pA k3 (pA (m_r03_Reader_fail (X := X) k4) pT)) (by kernel_rfl)
    · obtain ⟨v3, k5, h⟩ := bindE h
      obtain ⟨v4, k6, h⟩ := bindE h
      obtain ⟨v5, k7, h⟩ := bindE h
      obtain rfl := retE h
      exact fin (ok X) 11 [.b false, .s (r_r03_Reader_must v3) (o_r03_Reader_must v3), .s (r_r03_Reader_stmts v4) (o_r03_Reader_stmts v4), .s (r_r03_Reader_must v5) (o_r03_Reader_must v5)] (pA k3 (pA (m_r03_Reader_must (X := X) k5) (pA (ih_r03_Reader_stmts _ _ _ k6) (pA (m_r03_Reader_must (X := X) k7) pT)))) (by kernel_rfl)

theorem all_r03_Reader_stmts : ∀ n : Nat, (∀ (a0 : r03_Reader) (a1 : Int) (r : (r03_Reader × (List r02_Stmt))), r03_Reader_stmtsN n a0 a1 = some r → Cs Tryz.prog (GX X) 31 [xP 0 0, xI a1] [oB 89 (bs (e_r03_Reader a0))] (r_r03_Reader_stmts r) (o_r03_Reader_stmts r)) ∧ (∀ (a0 : r03_Reader) (a1 : Int) (r : (r03_Reader × (List r02_Stmt))), r03_Reader_blockN n a0 a1 = some r → Cs Tryz.prog (GX X) 67 [xP 0 0, xI a1] [oB 89 (bs (e_r03_Reader a0))] (r_r03_Reader_block r) (o_r03_Reader_block r))
  | 0 => ⟨(fun _ _ _ h => by rw [r03_Reader_stmtsN] at h; cases h), (fun _ _ _ h => by rw [r03_Reader_blockN] at h; cases h)⟩
  | n + 1 => by
    have ih := all_r03_Reader_stmts n
    exact ⟨s_r03_Reader_stmts ih.1 ih.2, s_r03_Reader_block ih.1 ih.2⟩

theorem m_r03_Reader_stmts {a0 : r03_Reader} {a1 : Int} {r : (r03_Reader × (List r02_Stmt))} (h : r03_Reader_stmts a0 a1 = some r) : Cs Tryz.prog (GX X) 31 [xP 0 0, xI a1] [oB 89 (bs (e_r03_Reader a0))] (r_r03_Reader_stmts r) (o_r03_Reader_stmts r) := by
  obtain ⟨n, hn⟩ := unfE h
  exact (all_r03_Reader_stmts n).1 _ _ _ hn

theorem m_r03_Parse {a0 : ByteArray} {r : (r02_System × Int × Int)} (h : r03_Parse a0 = some r) : Cv Tryz.prog (GX X) 10 [xS a0] (r_r03_Parse r) := by
  refine Cs.toV (?_ : Cs Tryz.prog (GX X) 10 [xS a0] [] (r_r03_Parse r) (o_r03_Parse r)) (by kernel_rfl)
  refine fnT (cx := cx X) Tryz.f10 Tryz.call10 Tryz.func10 (by kernel_rfl) ?_
  unfold r03_Parse at h
  obtain ⟨v1, k1, h⟩ := bindE h
  refine adv (ok X) 7 [.c (r_r01_Lex v1)] (pA (m_r01_Lex (X := X) k1) pT) (by kernel_rfl) ?_
  rcases iteE h with ⟨k2, h⟩ | ⟨k2, h⟩
  · obtain rfl := retE h
    exact fin (ok X) 4 [.b true] (pA k2 pT) (by kernel_rfl)
  · refine adv (ok X) 7 [.b false] (pA k2 pT) (by kernel_rfl) ?_
    refine lp (ok X) (r03_Parse_l1) (fun (x1 : ((List r01_Token) × Int × Int × Int × Int × (List r02_Chan))) => ⟨164, 0, [(2, [xP 0 0]), (8, [xP 1 0]), (9, [xP 2 0])], [oB 34 [.emp, .emp, .emp], oB 89 (bs (e_r03_Reader (r03_Reader.mk x1.1 x1.2.1 x1.2.2.1 x1.2.2.2.1 x1.2.2.2.2.1))), oB 34 [.row 3, .emp, .emp], oR true 90 6 (List.map e_r02_Chan x1.2.2.2.2.2)]⟩) (fun (j1 : ((List r01_Token) × Int × Int × Int × Int × (List r02_Chan))) => ⟨164, 0, [(2, [xP 0 0]), (8, [xP 1 0]), (9, [xP 2 0])], [oB 34 [.emp, .emp, .emp], oB 89 (bs (e_r03_Reader (r03_Reader.mk j1.1 j1.2.1 j1.2.2.1 j1.2.2.2.1 j1.2.2.2.2.1))), oB 34 [.row 3, .emp, .emp], oR true 90 6 (List.map e_r02_Chan j1.2.2.2.2.2)]⟩) R_r03_Parse (v1.1, 0, (a0.size : Int), 0, 0, []) (fun _ => ⟨_, _, _, _, rfl⟩) h (by kernel_rfl) (fun x1 o h => ?_) (fun r' h => ?_) (fun j1 h => ?_)
    · unfold r03_Parse_l1 at h
      obtain ⟨v2, k3, h⟩ := bindE h
      refine adv (ok X) 3 [.s (r_r03_Reader_is v2) (o_r03_Reader_is (r03_Reader.mk x1.1 x1.2.1 x1.2.2.1 x1.2.2.2.1 x1.2.2.2.2.1) v2)] (pA (m_r03_Reader_is (X := X) k3) pT) (by kernel_rfl) ?_
      rcases iteE h with ⟨k4, h⟩ | ⟨k4, h⟩
      · obtain ⟨v3, k5, h⟩ := bindE h
        obtain ⟨v4, k6, h⟩ := bindE h
        obtain rfl := retE h
        exact fin (ok X) 7 [.b true, .o [0, 1, 2, 3, 4, 5, 6, 7], .s (r_r03_Reader_channel v3) (o_r03_Reader_channel v3), .l (List.map e_r02_Chan v4)] (pA k4 (pA (m_r03_Reader_channel (X := X) k5) (pA (apm (L := x1.2.2.2.2.2) (M := [v3.2]) e_r02_Chan_len k6) pT))) (by kernel_rfl)
      · obtain rfl := retE h
        exact fin (ok X) 2 [.b false] (pA k4 pT) (by kernel_rfl)
    · cases h
    · refine adv (ok X) 1 [] pT (by kernel_rfl) ?_
      refine lp (ok X) (r03_Parse_l2) (fun (x2 : ((List r01_Token) × Int × Int × Int × Int × (List r02_Rule))) => ⟨164, 0, [(2, [xP 0 0]), (8, [xP 1 0]), (9, [xP 2 0])], [oB 34 [.emp, .emp, .emp], oB 89 (bs (e_r03_Reader (r03_Reader.mk x2.1 x2.2.1 x2.2.2.1 x2.2.2.2.1 x2.2.2.2.2.1))), oB 34 [.row 3, .row 4, .emp], oR true 90 6 (List.map e_r02_Chan j1.2.2.2.2.2), oR true 95 2 (List.map e_r02_Rule x2.2.2.2.2.2)]⟩) (fun (j2 : ((List r01_Token) × Int × Int × Int × Int × (List r02_Rule))) => ⟨164, 0, [(2, [xP 0 0]), (8, [xP 1 0]), (9, [xP 2 0])], [oB 34 [.emp, .emp, .emp], oB 89 (bs (e_r03_Reader (r03_Reader.mk j2.1 j2.2.1 j2.2.2.1 j2.2.2.2.1 j2.2.2.2.2.1))), oB 34 [.row 3, .row 4, .emp], oR true 90 6 (List.map e_r02_Chan j1.2.2.2.2.2), oR true 95 2 (List.map e_r02_Rule j2.2.2.2.2.2)]⟩) R_r03_Parse (j1.1, j1.2.1, j1.2.2.1, j1.2.2.2.1, j1.2.2.2.2.1, []) (fun _ => ⟨_, _, _, _, rfl⟩) h (by kernel_rfl) (fun x2 o h => ?_) (fun r' h => ?_) (fun j2 h => ?_)
      · unfold r03_Parse_l2 at h
        obtain ⟨v5, k7, h⟩ := bindE h
        refine adv (ok X) 3 [.s (r_r03_Reader_is v5) (o_r03_Reader_is (r03_Reader.mk x2.1 x2.2.1 x2.2.2.1 x2.2.2.2.1 x2.2.2.2.2.1) v5)] (pA (m_r03_Reader_is (X := X) k7) pT) (by kernel_rfl) ?_
        rcases iteE h with ⟨k8, h⟩ | ⟨k8, h⟩
        · obtain ⟨v6, k9, h⟩ := bindE h
          obtain ⟨v7, k10, h⟩ := bindE h
          refine adv (ok X) 10 [.b true, .s (r_r03_Reader_name v6) (o_r03_Reader_name v6), .s (r_r03_Reader_must v7) (o_r03_Reader_must v7)] (pA k8 (pA (m_r03_Reader_name (X := X) k9) (pA (m_r03_Reader_must (X := X) k10) pT))) (by kernel_rfl) ?_
          refine lp (ok X) (r03_Parse_l3) (fun (x3 : ((List r01_Token) × Int × Int × Int × Int × (List r02_Move))) => ⟨164, 0, [(2, [xP 0 0]), (8, [xP 1 0]), (9, [xP 2 0]), (10, [xP 5 0])], [oB 34 [.emp, .emp, .emp], oB 89 (bs (e_r03_Reader (r03_Reader.mk x3.1 x3.2.1 x3.2.2.1 x3.2.2.2.1 x3.2.2.2.2.1))), oB 34 [.row 3, .row 4, .emp], oR true 90 6 (List.map e_r02_Chan j1.2.2.2.2.2), oR true 95 2 (List.map e_r02_Rule x2.2.2.2.2.2), oB 95 [.pv (.str v6.2), .row 6], oR true 98 3 (List.map e_r02_Move x3.2.2.2.2.2)]⟩) (fun (j3 : ((List r01_Token) × Int × Int × Int × Int × (List r02_Move))) => ⟨164, 0, [(2, [xP 0 0]), (8, [xP 1 0]), (9, [xP 2 0]), (10, [xP 5 0])], [oB 34 [.emp, .emp, .emp], oB 89 (bs (e_r03_Reader (r03_Reader.mk j3.1 j3.2.1 j3.2.2.1 j3.2.2.2.1 j3.2.2.2.2.1))), oB 34 [.row 3, .row 4, .emp], oR true 90 6 (List.map e_r02_Chan j1.2.2.2.2.2), oR true 95 2 (List.map e_r02_Rule x2.2.2.2.2.2), oB 95 [.pv (.str v6.2), .row 6], oR true 98 3 (List.map e_r02_Move j3.2.2.2.2.2)]⟩) R_r03_Parse (v7.L, v7.I, v7.End, v7.E, v7.At, []) (fun _ => ⟨_, _, _, _, rfl⟩) h (by kernel_rfl) (fun x3 o h => ?_) (fun r' h => ?_) (fun j3 h => ?_)
          · unfold r03_Parse_l3 at h
            refine adv (ok X) 2 [] pT (by kernel_rfl) ?_
            refine jn (ok X) 1 (fun (j4 : Bool) => ⟨164, 0, [(2, [xP 0 0]), (8, [xP 1 0]), (9, [xP 2 0]), (10, [xP 5 0]), (68, [xB j4])], [oB 34 [.emp, .emp, .emp], oB 89 (bs (e_r03_Reader (r03_Reader.mk x3.1 x3.2.1 x3.2.2.1 x3.2.2.2.1 x3.2.2.2.2.1))), oB 34 [.row 3, .row 4, .emp], oR true 90 6 (List.map e_r02_Chan j1.2.2.2.2.2), oR true 95 2 (List.map e_r02_Rule x2.2.2.2.2.2), oB 95 [.pv (.str v6.2), .row 6], oR true 98 3 (List.map e_r02_Move x3.2.2.2.2.2)]⟩) h (fun j4 h => ?_) (fun j4 h => ?_)
            · rcases iteE h with ⟨k11, h⟩ | ⟨k11, h⟩
              · obtain ⟨v8, k12, h⟩ := bindE h
                obtain rfl := retE h
                exact fin (ok X) 1 [.b true, .b true, .s (r_r03_Reader_is v8) (o_r03_Reader_is (r03_Reader.mk x3.1 x3.2.1 x3.2.2.1 x3.2.2.2.1 x3.2.2.2.2.1) v8), .b true, .b true] (pA k11 (pA k11 (pA (m_r03_Reader_is (X := X) k12) (pA k11 (pA k11 pT))))) (by kernel_rfl)
              · obtain rfl := retE h
                exact fin (ok X) 1 [.b false, .b false, .b false, .b false] (pA k11 (pA k11 (pA k11 (pA k11 pT)))) (by kernel_rfl)
            · rcases iteE h with ⟨k13, h⟩ | ⟨k13, h⟩
              · obtain ⟨v9, k14, h⟩ := bindE h
                obtain ⟨v10, k15, h⟩ := bindE h
                obtain ⟨v11, k16, h⟩ := bindE h
                obtain ⟨v12, k17, h⟩ := bindE h
                obtain ⟨v13, k18, h⟩ := bindE h
                obtain rfl := retE h
                exact fin (ok X) 15 [.b true, .s (r_r03_Reader_number v9) (o_r03_Reader_number v9), .s (r_r03_Reader_name v10) (o_r03_Reader_name v10), .s (r_r03_Reader_number v11) (o_r03_Reader_number v11), .s (r_r03_Reader_must v12) (o_r03_Reader_must v12), .l (List.map e_r02_Move v13)] (pA k13 (pA (m_r03_Reader_number (X := X) k14) (pA (m_r03_Reader_name (X := X) k15) (pA (m_r03_Reader_number (X := X) k16) (pA (m_r03_Reader_must (X := X) k17) (pA (apm (L := x3.2.2.2.2.2) (M := [(r02_Move.mk v9.2 v10.2 v11.2)]) e_r02_Move_len k18) pT)))))) (by kernel_rfl)
              · obtain rfl := retE h
                exact fin (ok X) 2 [.b false] (pA k13 pT) (by kernel_rfl)
          · cases h
          · obtain ⟨v14, k19, h⟩ := bindE h
            obtain ⟨v15, k20, h⟩ := bindE h
            obtain rfl := retE h
            exact fin (ok X) 4 [.s (r_r03_Reader_must v14) (o_r03_Reader_must v14), .z (.fz 6), .l (List.map e_r02_Rule v15)] (pA (m_r03_Reader_must (X := X) k19) (pA (apm (L := x2.2.2.2.2.2) (M := [(r02_Rule.mk v6.2 j3.2.2.2.2.2)]) e_r02_Rule_len k20) pT)) (by kernel_rfl)
        · obtain rfl := retE h
          exact fin (ok X) 2 [.b false] (pA k8 pT) (by kernel_rfl)
      · cases h
      · refine adv (ok X) 1 [] pT (by kernel_rfl) ?_
        refine lp (ok X) (r03_Parse_l5) (fun (x5 : ((List r01_Token) × Int × Int × Int × Int × (List r02_Proc))) => ⟨164, 0, [(2, [xP 0 0]), (8, [xP 1 0]), (9, [xP 2 0])], [oB 34 [.emp, .emp, .emp], oB 89 (bs (e_r03_Reader (r03_Reader.mk x5.1 x5.2.1 x5.2.2.1 x5.2.2.2.1 x5.2.2.2.2.1))), oB 34 [.row 3, .row 4, .row 5], oR true 90 6 (List.map e_r02_Chan j1.2.2.2.2.2), oR true 95 2 (List.map e_r02_Rule j2.2.2.2.2.2), oR true 53 3 (List.map e_r02_Proc x5.2.2.2.2.2)]⟩) (fun (j5 : ((List r01_Token) × Int × Int × Int × Int × (List r02_Proc))) => ⟨164, 0, [(2, [xP 0 0]), (8, [xP 1 0]), (9, [xP 2 0])], [oB 34 [.emp, .emp, .emp], oB 89 (bs (e_r03_Reader (r03_Reader.mk j5.1 j5.2.1 j5.2.2.1 j5.2.2.2.1 j5.2.2.2.2.1))), oB 34 [.row 3, .row 4, .row 5], oR true 90 6 (List.map e_r02_Chan j1.2.2.2.2.2), oR true 95 2 (List.map e_r02_Rule j2.2.2.2.2.2), oR true 53 3 (List.map e_r02_Proc j5.2.2.2.2.2)]⟩) R_r03_Parse (j2.1, j2.2.1, j2.2.2.1, j2.2.2.2.1, j2.2.2.2.2.1, []) (fun _ => ⟨_, _, _, _, rfl⟩) h (by kernel_rfl) (fun x5 o h => ?_) (fun r' h => ?_) (fun j5 h => ?_)
        · unfold r03_Parse_l5 at h
          obtain ⟨v16, k21, h⟩ := bindE h
          refine adv (ok X) 3 [.s (r_r03_Reader_is v16) (o_r03_Reader_is (r03_Reader.mk x5.1 x5.2.1 x5.2.2.1 x5.2.2.2.1 x5.2.2.2.2.1) v16)] (pA (m_r03_Reader_is (X := X) k21) pT) (by kernel_rfl) ?_
          rcases iteE h with ⟨k22, h⟩ | ⟨k22, h⟩
          · obtain ⟨v17, k23, h⟩ := bindE h
            obtain ⟨v18, k24, h⟩ := bindE h
            refine adv (ok X) 10 [.b true, .s (r_r03_Reader_name v17) (o_r03_Reader_name v17), .s (r_r03_Reader_must v18) (o_r03_Reader_must v18)] (pA k22 (pA (m_r03_Reader_name (X := X) k23) (pA (m_r03_Reader_must (X := X) k24) pT))) (by kernel_rfl) ?_
            refine lp (ok X) (r03_Parse_l6) (fun (x6 : ((List r01_Token) × Int × Int × Int × Int × (List ByteArray))) => ⟨164, 0, [(2, [xP 0 0]), (8, [xP 1 0]), (9, [xP 2 0]), (12, [xP 6 0])], [oB 34 [.emp, .emp, .emp], oB 89 (bs (e_r03_Reader (r03_Reader.mk x6.1 x6.2.1 x6.2.2.1 x6.2.2.2.1 x6.2.2.2.2.1))), oB 34 [.row 3, .row 4, .row 5], oR true 90 6 (List.map e_r02_Chan j1.2.2.2.2.2), oR true 95 2 (List.map e_r02_Rule j2.2.2.2.2.2), oR true 53 3 (List.map e_r02_Proc x5.2.2.2.2.2), oB 53 [.pv (.str v17.2), .row 7, .emp], oR true 9 1 (List.map e_str x6.2.2.2.2.2)]⟩) (fun (j6 : ((List r01_Token) × Int × Int × Int × Int × (List ByteArray))) => ⟨164, 0, [(2, [xP 0 0]), (8, [xP 1 0]), (9, [xP 2 0]), (12, [xP 6 0])], [oB 34 [.emp, .emp, .emp], oB 89 (bs (e_r03_Reader (r03_Reader.mk j6.1 j6.2.1 j6.2.2.1 j6.2.2.2.1 j6.2.2.2.2.1))), oB 34 [.row 3, .row 4, .row 5], oR true 90 6 (List.map e_r02_Chan j1.2.2.2.2.2), oR true 95 2 (List.map e_r02_Rule j2.2.2.2.2.2), oR true 53 3 (List.map e_r02_Proc x5.2.2.2.2.2), oB 53 [.pv (.str v17.2), .row 7, .emp], oR true 9 1 (List.map e_str j6.2.2.2.2.2)]⟩) R_r03_Parse (v18.L, v18.I, v18.End, v18.E, v18.At, []) (fun _ => ⟨_, _, _, _, rfl⟩) h (by kernel_rfl) (fun x6 o h => ?_) (fun r' h => ?_) (fun j6 h => ?_)
            · unfold r03_Parse_l6 at h
              obtain ⟨v19, k25, h⟩ := bindE h
              refine adv (ok X) 3 [.s (r_r03_Reader_is v19) (o_r03_Reader_is (r03_Reader.mk x6.1 x6.2.1 x6.2.2.1 x6.2.2.2.1 x6.2.2.2.2.1) v19)] (pA (m_r03_Reader_is (X := X) k25) pT) (by kernel_rfl) ?_
              rcases iteE h with ⟨k26, h⟩ | ⟨k26, h⟩
              · obtain ⟨v20, k27, h⟩ := bindE h
                obtain ⟨v21, k28, h⟩ := bindE h
                obtain ⟨v22, k29, h⟩ := bindE h
                obtain rfl := retE h
                exact fin (ok X) 9 [.b true, .o [0, 1, 2, 3, 4, 5, 6, 7], .s (r_r03_Reader_name v20) (o_r03_Reader_name v20), .l (List.map e_str v21), .s (r_r03_Reader_must v22) (o_r03_Reader_must v22)] (pA k26 (pA (m_r03_Reader_name (X := X) k27) (pA (apm (L := x6.2.2.2.2.2) (M := [v20.2]) e_str_len k28) (pA (m_r03_Reader_must (X := X) k29) pT)))) (by kernel_rfl)
              · obtain rfl := retE h
                exact fin (ok X) 2 [.b false] (pA k26 pT) (by kernel_rfl)
            · cases h
            · obtain ⟨v23, k30, h⟩ := bindE h
              obtain ⟨v24, k31, h⟩ := bindE h
              obtain ⟨v25, k32, h⟩ := bindE h
              obtain rfl := retE h
              exact fin (ok X) 6 [.s (r_r03_Reader_stmts v23) (o_r03_Reader_stmts v23), .s (r_r03_Reader_must v24) (o_r03_Reader_must v24), .z (.fz 7), .l (List.map e_r02_Proc v25)] (pA (m_r03_Reader_stmts (X := X) k30) (pA (m_r03_Reader_must (X := X) k31) (pA (apm (L := x5.2.2.2.2.2) (M := [(r02_Proc.mk v17.2 j6.2.2.2.2.2 v23.2)]) e_r02_Proc_len k32) pT))) (by kernel_rfl)
          · obtain rfl := retE h
            exact fin (ok X) 2 [.b false] (pA k22 pT) (by kernel_rfl)
        · cases h
        · refine adv (ok X) 3 [.o [0, 1, 2, 3, 4, 5, 6, 7, 8, 9], .i (j5.1.length : Int)] (pA (lm e_r01_Token j5.1) pT) (by kernel_rfl) ?_
          rcases iteE h with ⟨k33, h⟩ | ⟨k33, h⟩
          · obtain ⟨v26, k34, h⟩ := bindE h
            refine adv (ok X) 5 [.b true, .s (r_r03_Reader_fail v26) (o_r03_Reader_fail v26)] (pA k33 (pA (m_r03_Reader_fail (X := X) k34) pT)) (by kernel_rfl) ?_
            rcases iteE h with ⟨k35, h⟩ | ⟨k35, h⟩
            · obtain rfl := retE h
              exact fin (ok X) 4 [.b true, .o [0, 1, 2, 3, 4, 5, 6, 7, 8, 9, 10, 11]] (pA k35 pT) (by kernel_rfl)
            · obtain rfl := retE h
              exact fin (ok X) 5 [.b false] (pA k35 pT) (by kernel_rfl)
          · refine adv (ok X) 5 [.b false] (pA k33 pT) (by kernel_rfl) ?_
            rcases iteE h with ⟨k36, h⟩ | ⟨k36, h⟩
            · obtain rfl := retE h
              exact fin (ok X) 4 [.b true, .o [0, 1, 2, 3, 4, 5, 6, 7, 8, 9, 10, 11]] (pA k36 pT) (by kernel_rfl)
            · obtain rfl := retE h
              exact fin (ok X) 5 [.b false] (pA k36 pT) (by kernel_rfl)

theorem m_l03_parses {r : Bool} (h : l03_parses = some r) : Cv Tryz.prog (GX X) 11 [] (r_l03_parses r) := by
  refine Cs.toV (?_ : Cs Tryz.prog (GX X) 11 [] [] (r_l03_parses r) (o_l03_parses r)) (by kernel_rfl)
  refine fnT (cx := cx X) Tryz.f11 Tryz.call11 Tryz.func11 (by kernel_rfl) ?_
  unfold l03_parses at h
  obtain ⟨v1, k1, h⟩ := bindE h
  obtain ⟨v2, k2, h⟩ := bindE h
  refine adv (ok X) 7 [.c (r_parse_Parse v1), .c (r_parse_Parse v2)] (pA (m_parse_Parse (X := X) k1) (pA (m_parse_Parse (X := X) k2) pT)) (by kernel_rfl) ?_
  refine jn (ok X) 1 (fun (j1 : Bool) => ⟨82, 0, [(0, [xB j1])], []⟩) h (fun j1 h => ?_) (fun j1 h => ?_)
  · rcases iteE h with ⟨k3, h⟩ | ⟨k3, h⟩
    · rcases iteE h with ⟨k4, h⟩ | ⟨k4, h⟩
      · obtain ⟨v3, k5, h⟩ := bindE h
        rcases iteE h with ⟨k6, h⟩ | ⟨k6, h⟩
        · obtain ⟨v4, k7, h⟩ := bindE h
          obtain ⟨v5, k8, h⟩ := bindE h
          rcases iteE h with ⟨k9, h⟩ | ⟨k9, h⟩
          · obtain ⟨v6, k10, h⟩ := bindE h
            obtain ⟨v7, k11, h⟩ := bindE h
            rcases iteE h with ⟨k12, h⟩ | ⟨k12, h⟩
            · obtain ⟨v8, k13, h⟩ := bindE h
              obtain ⟨v9, k14, h⟩ := bindE h
              obtain ⟨v10, k15, h⟩ := bindE h
              rcases iteE h with ⟨k16, h⟩ | ⟨k16, h⟩
              · rcases iteE h with ⟨k17, h⟩ | ⟨k17, h⟩
                · obtain rfl := retE h
                  exact fin (ok X) 1 [.b true, .b true, .b true, .i (v1.1.Procs.length : Int), .b true, .b true, .b true, .b true, .b true, .e (e_ast_Proc v3), .b true, .b true, .b true, .i (v3.Body.length : Int), .b true, .b true, .b true, .b true, .b true, .e (e_ast_Proc v4), .b true, .b true, .b true, .e (f_ast_Stmt v5), .b true, .b true, .b true, .b true, .b true, .b true, .b true, .b true, .e (e_ast_Proc v6), .b true, .b true, .b true, .e (f_ast_Stmt v7), .b true, .b true, .b true, .b true, .i (v7.E.Kids.length : Int), .b true, .b true, .b true, .b true, .b true, .e (e_ast_Proc v8), .b true, .b true, .b true, .e (f_ast_Stmt v9), .b true, .b true, .b true, .b true, .e (f_ast_Expr v10), .b true, .b true, .b true, .b true, .b true, .b true, .b true, .b true, .b true, .b true] (pA k3 (pA k3 (pA k3 (pA (lm e_ast_Proc v1.1.Procs) (pA k3 (pA k3 (pA k4 (pA k4 (pA k4 (pA (ixm e_ast_Proc k5) (pA k4 (pA k4 (pA k4 (pA (lm e_ast_Stmt v3.Body) (pA k4 (pA k4 (pA k6 (pA k6 (pA k6 (pA (ixm e_ast_Proc k7) (pA k6 (pA k6 (pA k6 (pA (ixr e_ast_Stmt_eq k8) (pA k6 (pA k6 (pA k6 (pA k6 (pA k6 (pA k9 (pA k9 (pA k9 (pA (ixm e_ast_Proc k10) (pA k9 (pA k9 (pA k9 (pA (ixr e_ast_Stmt_eq k11) (pA k9 (pA k9 (pA k9 (pA k9 (pA (lm e_ast_Expr v7.E.Kids) (pA k9 (pA k9 (pA k12 (pA k12 (pA k12 (pA (ixm e_ast_Proc k13) (pA k12 (pA k12 (pA k12 (pA (ixr e_ast_Stmt_eq k14) (pA k12 (pA k12 (pA k12 (pA k12 (pA (ixr e_ast_Expr_eq k15) (pA k12 (pA k12 (pA k12 (pA k12 (pA k16 (pA k16 (pA k16 (pA k17 (pA k17 (pA k17 pT))))))))))))))))))))))))))))))))))))))))))))))))))))))))))))))))))) (by kernel_rfl)
                · obtain rfl := retE h
                  exact fin (ok X) 1 [.b true, .b true, .b true, .i (v1.1.Procs.length : Int), .b true, .b true, .b true, .b true, .b true, .e (e_ast_Proc v3), .b true, .b true, .b true, .i (v3.Body.length : Int), .b true, .b true, .b true, .b true, .b true, .e (e_ast_Proc v4), .b true, .b true, .b true, .e (f_ast_Stmt v5), .b true, .b true, .b true, .b true, .b true, .b true, .b true, .b true, .e (e_ast_Proc v6), .b true, .b true, .b true, .e (f_ast_Stmt v7), .b true, .b true, .b true, .b true, .i (v7.E.Kids.length : Int), .b true, .b true, .b true, .b true, .b true, .e (e_ast_Proc v8), .b true, .b true, .b true, .e (f_ast_Stmt v9), .b true, .b true, .b true, .b true, .e (f_ast_Expr v10), .b true, .b true, .b true, .b true, .b true, .b true, .b true, .b false, .b false, .b false] (pA k3 (pA k3 (pA k3 (pA (lm e_ast_Proc v1.1.Procs) (pA k3 (pA k3 (pA k4 (pA k4 (pA k4 (pA (ixm e_ast_Proc k5) (pA k4 (pA k4 (pA k4 (pA (lm e_ast_Stmt v3.Body) (pA k4 (pA k4 (pA k6 (pA k6 (pA k6 (pA (ixm e_ast_Proc k7) (pA k6 (pA k6 (pA k6 (pA (ixr e_ast_Stmt_eq k8) (pA k6 (pA k6 (pA k6 (pA k6 (pA k6 (pA k9 (pA k9 (pA k9 (pA (ixm e_ast_Proc k10) (pA k9 (pA k9 (pA k9 (pA (ixr e_ast_Stmt_eq k11) (pA k9 (pA k9 (pA k9 (pA k9 (pA (lm e_ast_Expr v7.E.Kids) (pA k9 (pA k9 (pA k12 (pA k12 (pA k12 (pA (ixm e_ast_Proc k13) (pA k12 (pA k12 (pA k12 (pA (ixr e_ast_Stmt_eq k14) (pA k12 (pA k12 (pA k12 (pA k12 (pA (ixr e_ast_Expr_eq k15) (pA k12 (pA k12 (pA k12 (pA k12 (pA k16 (pA k16 (pA k16 (pA k17 (pA k17 (pA k17 pT))))))))))))))))))))))))))))))))))))))))))))))))))))))))))))))))))) (by kernel_rfl)
              · obtain rfl := retE h
                exact fin (ok X) 1 [.b true, .b true, .b true, .i (v1.1.Procs.length : Int), .b true, .b true, .b true, .b true, .b true, .e (e_ast_Proc v3), .b true, .b true, .b true, .i (v3.Body.length : Int), .b true, .b true, .b true, .b true, .b true, .e (e_ast_Proc v4), .b true, .b true, .b true, .e (f_ast_Stmt v5), .b true, .b true, .b true, .b true, .b true, .b true, .b true, .b true, .e (e_ast_Proc v6), .b true, .b true, .b true, .e (f_ast_Stmt v7), .b true, .b true, .b true, .b true, .i (v7.E.Kids.length : Int), .b true, .b true, .b true, .b true, .b true, .e (e_ast_Proc v8), .b true, .b true, .b true, .e (f_ast_Stmt v9), .b true, .b true, .b true, .b true, .e (f_ast_Expr v10), .b true, .b true, .b true, .b true, .b false, .b false, .b false, .b false, .b false, .b false] (pA k3 (pA k3 (pA k3 (pA (lm e_ast_Proc v1.1.Procs) (pA k3 (pA k3 (pA k4 (pA k4 (pA k4 (pA (ixm e_ast_Proc k5) (pA k4 (pA k4 (pA k4 (pA (lm e_ast_Stmt v3.Body) (pA k4 (pA k4 (pA k6 (pA k6 (pA k6 (pA (ixm e_ast_Proc k7) (pA k6 (pA k6 (pA k6 (pA (ixr e_ast_Stmt_eq k8) (pA k6 (pA k6 (pA k6 (pA k6 (pA k6 (pA k9 (pA k9 (pA k9 (pA (ixm e_ast_Proc k10) (pA k9 (pA k9 (pA k9 (pA (ixr e_ast_Stmt_eq k11) (pA k9 (pA k9 (pA k9 (pA k9 (pA (lm e_ast_Expr v7.E.Kids) (pA k9 (pA k9 (pA k12 (pA k12 (pA k12 (pA (ixm e_ast_Proc k13) (pA k12 (pA k12 (pA k12 (pA (ixr e_ast_Stmt_eq k14) (pA k12 (pA k12 (pA k12 (pA k12 (pA (ixr e_ast_Expr_eq k15) (pA k12 (pA k12 (pA k12 (pA k12 (pA k16 (pA k16 (pA k16 (pA ff (pA ff (pA ff pT))))))))))))))))))))))))))))))))))))))))))))))))))))))))))))))))))) (by kernel_rfl)
            · obtain rfl := retE h
              exact fin (ok X) 1 [.b true, .b true, .b true, .i (v1.1.Procs.length : Int), .b true, .b true, .b true, .b true, .b true, .e (e_ast_Proc v3), .b true, .b true, .b true, .i (v3.Body.length : Int), .b true, .b true, .b true, .b true, .b true, .e (e_ast_Proc v4), .b true, .b true, .b true, .e (f_ast_Stmt v5), .b true, .b true, .b true, .b true, .b true, .b true, .b true, .b true, .e (e_ast_Proc v6), .b true, .b true, .b true, .e (f_ast_Stmt v7), .b true, .b true, .b true, .b true, .i (v7.E.Kids.length : Int), .b true, .b true, .b false, .b false, .b false, .b false, .b false, .b false, .b false, .b false, .b false, .b false, .b false, .b false, .b false, .b false, .b false, .b false, .b false, .b false, .b false, .b false] (pA k3 (pA k3 (pA k3 (pA (lm e_ast_Proc v1.1.Procs) (pA k3 (pA k3 (pA k4 (pA k4 (pA k4 (pA (ixm e_ast_Proc k5) (pA k4 (pA k4 (pA k4 (pA (lm e_ast_Stmt v3.Body) (pA k4 (pA k4 (pA k6 (pA k6 (pA k6 (pA (ixm e_ast_Proc k7) (pA k6 (pA k6 (pA k6 (pA (ixr e_ast_Stmt_eq k8) (pA k6 (pA k6 (pA k6 (pA k6 (pA k6 (pA k9 (pA k9 (pA k9 (pA (ixm e_ast_Proc k10) (pA k9 (pA k9 (pA k9 (pA (ixr e_ast_Stmt_eq k11) (pA k9 (pA k9 (pA k9 (pA k9 (pA (lm e_ast_Expr v7.E.Kids) (pA k9 (pA k9 (pA k12 (pA k12 (pA k12 (pA k12 (pA k12 (pA k12 (pA k12 (pA k12 (pA k12 (pA k12 (pA k12 (pA k12 (pA k12 (pA k12 (pA ff (pA ff (pA ff (pA ff (pA ff (pA ff pT)))))))))))))))))))))))))))))))))))))))))))))))))))))))))))))))) (by kernel_rfl)
          · obtain rfl := retE h
            exact fin (ok X) 1 [.b true, .b true, .b true, .i (v1.1.Procs.length : Int), .b true, .b true, .b true, .b true, .b true, .e (e_ast_Proc v3), .b true, .b true, .b true, .i (v3.Body.length : Int), .b true, .b true, .b true, .b true, .b true, .e (e_ast_Proc v4), .b true, .b true, .b true, .e (f_ast_Stmt v5), .b true, .b true, .b true, .b true, .b true, .b false, .b false, .b false, .b false, .b false, .b false, .b false, .b false, .b false, .b false, .b false, .b false, .b false, .b false, .b false, .b false, .b false, .b false, .b false, .b false, .b false, .b false, .b false, .b false, .b false, .b false, .b false, .b false, .b false, .b false, .b false, .b false] (pA k3 (pA k3 (pA k3 (pA (lm e_ast_Proc v1.1.Procs) (pA k3 (pA k3 (pA k4 (pA k4 (pA k4 (pA (ixm e_ast_Proc k5) (pA k4 (pA k4 (pA k4 (pA (lm e_ast_Stmt v3.Body) (pA k4 (pA k4 (pA k6 (pA k6 (pA k6 (pA (ixm e_ast_Proc k7) (pA k6 (pA k6 (pA k6 (pA (ixr e_ast_Stmt_eq k8) (pA k6 (pA k6 (pA k6 (pA k6 (pA k6 (pA k9 (pA k9 (pA k9 (pA k9 (pA k9 (pA k9 (pA k9 (pA k9 (pA k9 (pA k9 (pA k9 (pA k9 (pA ff (pA ff (pA ff (pA ff (pA ff (pA ff (pA ff (pA ff (pA ff (pA ff (pA ff (pA ff (pA ff (pA ff (pA ff (pA ff (pA ff (pA ff (pA ff (pA ff pT))))))))))))))))))))))))))))))))))))))))))))))))))))))))))))) (by kernel_rfl)
        · obtain rfl := retE h
          exact fin (ok X) 1 [.b true, .b true, .b true, .i (v1.1.Procs.length : Int), .b true, .b true, .b true, .b true, .b true, .e (e_ast_Proc v3), .b true, .b true, .b true, .i (v3.Body.length : Int), .b true, .b true, .b false, .b false, .b false, .b false, .b false, .b false, .b false, .b false, .b false, .b false, .b false, .b false, .b false, .b false, .b false, .b false, .b false, .b false, .b false, .b false, .b false, .b false, .b false, .b false, .b false, .b false, .b false, .b false, .b false, .b false, .b false, .b false, .b false, .b false, .b false, .b false, .b false, .b false, .b false, .b false, .b false, .b false, .b false] (pA k3 (pA k3 (pA k3 (pA (lm e_ast_Proc v1.1.Procs) (pA k3 (pA k3 (pA k4 (pA k4 (pA k4 (pA (ixm e_ast_Proc k5) (pA k4 (pA k4 (pA k4 (pA (lm e_ast_Stmt v3.Body) (pA k4 (pA k4 (pA k6 (pA k6 (pA k6 (pA k6 (pA k6 (pA k6 (pA k6 (pA k6 (pA k6 (pA k6 (pA k6 (pA ff (pA ff (pA ff (pA ff (pA ff (pA ff (pA ff (pA ff (pA ff (pA ff (pA ff (pA ff (pA ff (pA ff (pA ff (pA ff (pA ff (pA ff (pA ff (pA ff (pA ff (pA ff (pA ff (pA ff (pA ff (pA ff (pA ff (pA ff (pA ff (pA ff (pA ff (pA ff pT))))))))))))))))))))))))))))))))))))))))))))))))))))))))))) (by kernel_rfl)
      · obtain rfl := retE h
        exact fin (ok X) 1 [.b true, .b true, .b true, .i (v1.1.Procs.length : Int), .b true, .b true, .b false, .b false, .b false, .b false, .b false, .b false, .b false, .b false, .b false, .b false, .b false, .b false, .b false, .b false, .b false, .b false, .b false, .b false, .b false, .b false, .b false, .b false, .b false, .b false, .b false, .b false, .b false, .b false, .b false, .b false, .b false, .b false, .b false, .b false, .b false, .b false, .b false, .b false, .b false, .b false, .b false, .b false, .b false, .b false, .b false, .b false, .b false, .b false, .b false, .b false, .b false] (pA k3 (pA k3 (pA k3 (pA (lm e_ast_Proc v1.1.Procs) (pA k3 (pA k3 (pA k4 (pA k4 (pA k4 (pA k4 (pA k4 (pA k4 (pA k4 (pA k4 (pA ff (pA ff (pA ff (pA ff (pA ff (pA ff (pA ff (pA ff (pA ff (pA ff (pA ff (pA ff (pA ff (pA ff (pA ff (pA ff (pA ff (pA ff (pA ff (pA ff (pA ff (pA ff (pA ff (pA ff (pA ff (pA ff (pA ff (pA ff (pA ff (pA ff (pA ff (pA ff (pA ff (pA ff (pA ff (pA ff (pA ff (pA ff (pA ff (pA ff (pA ff (pA ff (pA ff pT))))))))))))))))))))))))))))))))))))))))))))))))))))))))) (by kernel_rfl)
    · obtain rfl := retE h
      exact fin (ok X) 1 [.b false, .b false, .b false, .b false, .b false, .b false, .b false, .b false, .b false, .b false, .b false, .b false, .b false, .b false, .b false, .b false, .b false, .b false, .b false, .b false, .b false, .b false, .b false, .b false, .b false, .b false, .b false, .b false, .b false, .b false, .b false, .b false, .b false, .b false, .b false, .b false, .b false, .b false, .b false, .b false, .b false, .b false, .b false, .b false, .b false, .b false, .b false, .b false, .b false, .b false, .b false, .b false, .b false, .b false, .b false, .b false] (pA k3 (pA k3 (pA k3 (pA k3 (pA k3 (pA ff (pA ff (pA ff (pA ff (pA ff (pA ff (pA ff (pA ff (pA ff (pA ff (pA ff (pA ff (pA ff (pA ff (pA ff (pA ff (pA ff (pA ff (pA ff (pA ff (pA ff (pA ff (pA ff (pA ff (pA ff (pA ff (pA ff (pA ff (pA ff (pA ff (pA ff (pA ff (pA ff (pA ff (pA ff (pA ff (pA ff (pA ff (pA ff (pA ff (pA ff (pA ff (pA ff (pA ff (pA ff (pA ff (pA ff (pA ff (pA ff (pA ff (pA ff pT)))))))))))))))))))))))))))))))))))))))))))))))))))))))) (by kernel_rfl)
  · obtain rfl := retE h
    exact fin (ok X) 1 [] pT (by kernel_rfl)

theorem s_l02_Expr {n : Nat} (ih_l02_Expr : ∀ (a0 : r02_Expr) (r : ast_Expr), l02_ExprN n a0 = some r → Cv Tryz.prog (GX X) 73 [.agg (bs (f_r02_Expr a0))] (r_l02_Expr r)) (a0 : r02_Expr) (r : ast_Expr) (h : l02_ExprN (n + 1) a0 = some r) : Cv Tryz.prog (GX X) 73 [.agg (bs (f_r02_Expr a0))] (r_l02_Expr r) := by
  refine Cs.toV (?_ : Cs Tryz.prog (GX X) 73 [.agg (bs (f_r02_Expr a0))] [] (r_l02_Expr r) (o_l02_Expr r)) (by kernel_rfl)
  refine fnT (cx := cx X) Tryz.f73 Tryz.call73 Tryz.func73 (by kernel_rfl) ?_
  rw [l02_ExprN] at h
  refine adv (ok X) 7 [] pT (by kernel_rfl) ?_
  refine lp (ok X) (l02_Expr_l1 (l02_ExprN n) a0) (fun (x1 : (Int × (List ast_Expr))) => ⟨29, 0, [(1, [xP 0 0]), (2, [xP 1 0]), (3, [xR 2]), (4, [xI x1.1])], [oB 43 (bs (f_r02_Expr a0)), oB 103 [.pv (.int .i64 0), .pv (.int .i64 0), .pv (.str (ByteArray.mk #[])), .emp], oR true 103 4 (List.map e_ast_Expr x1.2)]⟩) (fun (j1 : (List ast_Expr)) => ⟨29, 0, [(1, [xP 0 0]), (2, [xP 1 0]), (3, [xR 2])], [oB 43 (bs (f_r02_Expr a0)), oB 103 [.pv (.int .i64 0), .pv (.int .i64 0), .pv (.str (ByteArray.mk #[])), .emp], oR true 103 4 (List.map e_ast_Expr j1)]⟩) R_l02_Expr (0, []) (fun _ => ⟨_, _, _, _, rfl⟩) h (by kernel_rfl) (fun x1 o h => ?_) (fun r' h => ?_) (fun j1 h => ?_)
  · unfold l02_Expr_l1 at h
    refine adv (ok X) 3 [.i (a0.Kids.length : Int)] (pA (lm e_r02_Expr a0.Kids) pT) (by kernel_rfl) ?_
    rcases iteE h with ⟨k1, h⟩ | ⟨k1, h⟩
    · obtain ⟨v1, k2, h⟩ := bindE h
      obtain ⟨v2, k3, h⟩ := bindE h
      obtain ⟨v3, k4, h⟩ := bindE h
      obtain rfl := retE h
      exact fin (ok X) 7 [.b true, .e (f_r02_Expr v1), .c (r_l02_Expr v2), .bl (List.map e_ast_Expr [v2]), .l (List.map e_ast_Expr v3)] (pA k1 (pA (ixr e_r02_Expr_eq k2) (pA (ih_l02_Expr _ _ k3) (pA (blc (e := e_ast_Expr) (x := v2) (e_ast_Expr_eq _).symm (bl0 e_ast_Expr)) (pA (apm (L := x1.2) (M := [v2]) e_ast_Expr_len k4) pT))))) (by kernel_rfl)
    · obtain rfl := retE h
      exact fin (ok X) 2 [.b false] (pA k1 pT) (by kernel_rfl)
  · cases h
  · obtain rfl := retE h
    exact fin (ok X) 3 [] pT (by kernel_rfl)

theorem all_l02_Expr : ∀ n : Nat, (∀ (a0 : r02_Expr) (r : ast_Expr), l02_ExprN n a0 = some r → Cv Tryz.prog (GX X) 73 [.agg (bs (f_r02_Expr a0))] (r_l02_Expr r))
  | 0 => (fun _ _ h => by rw [l02_ExprN] at h; cases h)
  | n + 1 => by
    have ih := all_l02_Expr n
    exact s_l02_Expr ih

theorem m_l02_Expr {a0 : r02_Expr} {r : ast_Expr} (h : l02_Expr a0 = some r) : Cv Tryz.prog (GX X) 73 [.agg (bs (f_r02_Expr a0))] (r_l02_Expr r) := by
  obtain ⟨n, hn⟩ := unfE h
  exact (all_l02_Expr n) _ _ hn

theorem m_l02_Cond {a0 : r02_Cond} {r : ast_Cond} (h : l02_Cond a0 = some r) : Cv Tryz.prog (GX X) 74 [.agg (bs (e_r02_Cond a0))] (r_l02_Cond r) := by
  refine Cs.toV (?_ : Cs Tryz.prog (GX X) 74 [.agg (bs (e_r02_Cond a0))] [] (r_l02_Cond r) (o_l02_Cond r)) (by kernel_rfl)
  refine fnT (cx := cx X) Tryz.f74 Tryz.call74 Tryz.func74 (by kernel_rfl) ?_
  unfold l02_Cond at h
  obtain ⟨v1, k1, h⟩ := bindE h
  obtain ⟨v2, k2, h⟩ := bindE h
  obtain rfl := retE h
  exact fin (ok X) 5 [.o [0, 1, 2, 3, 4, 5, 6, 7, 8, 9], .c (r_l02_Expr v1), .c (r_l02_Expr v2)] (pA (m_l02_Expr (X := X) k1) (pA (m_l02_Expr (X := X) k2) pT)) (by kernel_rfl)

theorem s_l02_Stmts {n : Nat} (ih_l02_Stmts : ∀ (a0 : (List r02_Stmt)) (r : (List ast_Stmt)), l02_StmtsN n a0 = some r → Cv Tryz.prog (GX X) 43 [xL (List.map e_r02_Stmt a0)] (r_l02_Stmts r)) (a0 : (List r02_Stmt)) (r : (List ast_Stmt)) (h : l02_StmtsN (n + 1) a0 = some r) : Cv Tryz.prog (GX X) 43 [xL (List.map e_r02_Stmt a0)] (r_l02_Stmts r) := by
  refine Cs.toV (?_ : Cs Tryz.prog (GX X) 43 [xL (List.map e_r02_Stmt a0)] [] (r_l02_Stmts r) (o_l02_Stmts r)) (by kernel_rfl)
  refine fnT (cx := cx X) Tryz.f43 Tryz.call43 Tryz.func43 (by kernel_rfl) ?_
  rw [l02_StmtsN] at h
  refine adv (ok X) 7 [] pT (by kernel_rfl) ?_
  refine lp (ok X) (l02_Stmts_l1 (l02_StmtsN n) a0) (fun (x1 : (Int × (List ast_Stmt))) => ⟨74, 0, [(0, [xL (List.map e_r02_Stmt a0)]), (3, [xR 0]), (4, [xI x1.1])], [oR true 108 19 (List.map e_ast_Stmt x1.2)]⟩) (fun (j1 : (List ast_Stmt)) => ⟨74, 0, [(3, [xR 0])], [oR true 108 19 (List.map e_ast_Stmt j1)]⟩) R_l02_Stmts (0, []) (fun _ => ⟨_, _, _, _, rfl⟩) h (by kernel_rfl) (fun x1 o h => ?_) (fun r' h => ?_) (fun j1 h => ?_)
  · unfold l02_Stmts_l1 at h
    refine adv (ok X) 3 [.i (a0.length : Int)] (pA (lm e_r02_Stmt a0) pT) (by kernel_rfl) ?_
    rcases iteE h with ⟨k1, h⟩ | ⟨k1, h⟩
    · obtain ⟨v1, k2, h⟩ := bindE h
      obtain ⟨v2, k3, h⟩ := bindE h
      obtain ⟨v3, k4, h⟩ := bindE h
      obtain ⟨v4, k5, h⟩ := bindE h
      obtain ⟨v5, k6, h⟩ := bindE h
      refine adv (ok X) 11 [.b true, .e (f_r02_Stmt v1), .o [0, 1, 2, 3, 4, 5, 6, 7, 8, 9, 10, 11, 12, 13, 14, 15, 16, 17, 18, 19, 20], .c (r_l02_Expr v2), .c (r_l02_Cond v3), .c (r_l02_Stmts v4), .c (r_l02_Stmts v5)] (pA k1 (pA (ixr e_r02_Stmt_eq k2) (pA (m_l02_Expr (X := X) k3) (pA (m_l02_Cond (X := X) k4) (pA (ih_l02_Stmts _ _ k5) (pA (ih_l02_Stmts _ _ k6) pT)))))) (by kernel_rfl) ?_
      refine lp (ok X) (l02_Stmts_l2 (l02_StmtsN n) v1) (fun (x2 : (Int × (List ast_Arm))) => ⟨74, 0, [(0, [xL (List.map e_r02_Stmt a0)]), (3, [xR 0]), (4, [xI x1.1]), (5, [xP 1 0]), (6, [xP 2 0]), (7, [xI x2.1])], [oR true 108 19 (List.map e_ast_Stmt x1.2), oB 50 (bs (f_r02_Stmt v1)), oB 108 [.pv (.int .i64 v1.Kind), .pv (.str v1.Name), .pv (.str v1.Tag), .pv (.int .i64 v2.Kind), .pv (.int .i64 v2.Num), .pv (.str v2.Name), .pv (.sl (List.map e_ast_Expr v2.Kids)), .pv (.int .i64 v3.Op), .pv (.int .i64 v3.L.Kind), .pv (.int .i64 v3.L.Num), .pv (.str v3.L.Name), .pv (.sl (List.map e_ast_Expr v3.L.Kids)), .pv (.int .i64 v3.R.Kind), .pv (.int .i64 v3.R.Num), .pv (.str v3.R.Name), .pv (.sl (List.map e_ast_Expr v3.R.Kids)), .pv (.sl (List.map e_ast_Stmt v4)), .pv (.sl (List.map e_ast_Stmt v5)), .row 3], oR true 156 3 (List.map e_ast_Arm x2.2)]⟩) (fun (j2 : (List ast_Arm)) => ⟨74, 0, [(0, [xL (List.map e_r02_Stmt a0)]), (3, [xR 0]), (4, [xI x1.1]), (6, [xP 2 0])], [oR true 108 19 (List.map e_ast_Stmt x1.2), none, oB 108 [.pv (.int .i64 v1.Kind), .pv (.str v1.Name), .pv (.str v1.Tag), .pv (.int .i64 v2.Kind), .pv (.int .i64 v2.Num), .pv (.str v2.Name), .pv (.sl (List.map e_ast_Expr v2.Kids)), .pv (.int .i64 v3.Op), .pv (.int .i64 v3.L.Kind), .pv (.int .i64 v3.L.Num), .pv (.str v3.L.Name), .pv (.sl (List.map e_ast_Expr v3.L.Kids)), .pv (.int .i64 v3.R.Kind), .pv (.int .i64 v3.R.Num), .pv (.str v3.R.Name), .pv (.sl (List.map e_ast_Expr v3.R.Kids)), .pv (.sl (List.map e_ast_Stmt v4)), .pv (.sl (List.map e_ast_Stmt v5)), .row 3], oR true 156 3 (List.map e_ast_Arm j2)]⟩) R_l02_Stmts (0, []) (fun _ => ⟨_, _, _, _, rfl⟩) h (by kernel_rfl) (fun x2 o h => ?_) (fun r' h => ?_) (fun j2 h => ?_)
      · unfold l02_Stmts_l2 at h
        refine adv (ok X) 3 [.i (v1.Arms.length : Int)] (pA (lm e_r02_Arm v1.Arms) pT) (by kernel_rfl) ?_
        rcases iteE h with ⟨k7, h⟩ | ⟨k7, h⟩
        · obtain ⟨v6, k8, h⟩ := bindE h
          obtain ⟨v7, k9, h⟩ := bindE h
          obtain ⟨v8, k10, h⟩ := bindE h
          obtain rfl := retE h
          exact fin (ok X) 7 [.b true, .o [0, 1, 2, 3, 4, 5, 6, 7, 8, 9, 10, 11, 12, 13, 14, 15, 16, 17, 18, 19, 20, 21, 22, 23, 24, 25], .e (f_r02_Arm v6), .e (f_r02_Arm v6), .e (f_r02_Arm v6), .c (r_l02_Stmts v7), .bl (List.map e_ast_Arm [(ast_Arm.mk v6.Tag v6.Var v7)]), .l (List.map e_ast_Arm v8)] (pA k7 (pA (ixr e_r02_Arm_eq k8) (pA (ixr e_r02_Arm_eq k8) (pA (ixr e_r02_Arm_eq k8) (pA (ih_l02_Stmts _ _ k9) (pA (blc (e := e_ast_Arm) (x := (ast_Arm.mk v6.Tag v6.Var v7)) (e_ast_Arm_eq _).symm (bl0 e_ast_Arm)) (pA (apm (L := x2.2) (M := [(ast_Arm.mk v6.Tag v6.Var v7)]) e_ast_Arm_len k10) pT))))))) (by kernel_rfl)
        · obtain rfl := retE h
          exact fin (ok X) 2 [.b false] (pA k7 pT) (by kernel_rfl)
      · cases h
      · obtain ⟨v9, k11, h⟩ := bindE h
        obtain rfl := retE h
        exact fin (ok X) 3 [.z (.fz 3), .bl (List.map e_ast_Stmt [(ast_Stmt.mk v1.Kind v1.Name v1.Tag v2 v3 v4 v5 j2)]), .l (List.map e_ast_Stmt v9)] (pA (blc (e := e_ast_Stmt) (x := (ast_Stmt.mk v1.Kind v1.Name v1.Tag v2 v3 v4 v5 j2)) (e_ast_Stmt_eq _).symm (bl0 e_ast_Stmt)) (pA (apm (L := x1.2) (M := [(ast_Stmt.mk v1.Kind v1.Name v1.Tag v2 v3 v4 v5 j2)]) e_ast_Stmt_len k11) pT)) (by kernel_rfl)
    · obtain rfl := retE h
      exact fin (ok X) 2 [.b false] (pA k1 pT) (by kernel_rfl)
  · cases h
  · obtain rfl := retE h
    exact fin (ok X) 3 [] pT (by kernel_rfl)

theorem all_l02_Stmts : ∀ n : Nat, (∀ (a0 : (List r02_Stmt)) (r : (List ast_Stmt)), l02_StmtsN n a0 = some r → Cv Tryz.prog (GX X) 43 [xL (List.map e_r02_Stmt a0)] (r_l02_Stmts r))
  | 0 => (fun _ _ h => by rw [l02_StmtsN] at h; cases h)
  | n + 1 => by
    have ih := all_l02_Stmts n
    exact s_l02_Stmts ih

theorem m_l02_Stmts {a0 : (List r02_Stmt)} {r : (List ast_Stmt)} (h : l02_Stmts a0 = some r) : Cv Tryz.prog (GX X) 43 [xL (List.map e_r02_Stmt a0)] (r_l02_Stmts r) := by
  obtain ⟨n, hn⟩ := unfE h
  exact (all_l02_Stmts n) _ _ hn
end Go.Proofs.YtokjbpmjdcbogaaGreatDoor.Abs

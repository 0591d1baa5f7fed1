/- Gw: the functions are these. -/
import Derived.Test.YtaaihamelknhdaaGreatDoorGwW0
namespace Go.Proofs.YtaaihamelknhdaaGreatDoor.Abs
open Go Go.RowKit
set_option linter.unusedVariables false
set_option maxRecDepth 100000
set_option maxHeartbeats 4000000
variable {X : EV}
theorem m_r01_digit {a0 : Int} {r : Bool} (h : r01_digit a0 = some r) : Cv Tryz.prog (GX X) 69 [.c (.pv (.int .u8 a0))] (r_r01_digit r) := by
  refine Cs.toV (?_ : Cs Tryz.prog (GX X) 69 [.c (.pv (.int .u8 a0))] [] (r_r01_digit r) (o_r01_digit r)) (by kernel_rfl)
  refine fnT (cx := cx X) Tryz.f69 Tryz.call69 Tryz.func69 (by kernel_rfl) ?_
  unfold r01_digit at h
  rcases iteE h with ⟨k1, h⟩ | ⟨k1, h⟩
  · obtain rfl := retE h
    exact fin (ok X) 5 [.b true, .b true, .b true] (pA k1 (pA k1 (pA k1 pT))) (by kernel_rfl)
  · obtain rfl := retE h
    exact fin (ok X) 5 [.b false, .b false, .b false] (pA k1 (pA k1 (pA k1 pT))) (by kernel_rfl)

theorem m_r01_words {r : (List ByteArray)} (h : r01_words = some r) : Cv Tryz.prog (GX X) 85 [] (r_r01_words r) := by
  refine Cs.toV (?_ : Cs Tryz.prog (GX X) 85 [] [] (r_r01_words r) (o_r01_words r)) (by kernel_rfl)
  refine fnT (cx := cx X) Tryz.f85 Tryz.call85 Tryz.func85 (by kernel_rfl) ?_
  unfold r01_words at h
  obtain rfl := retE h
  exact fin (ok X) 5 [] pT (by kernel_rfl)

theorem m_r01_Reserved {a0 : ByteArray} {r : Bool} (h : r01_Reserved a0 = some r) : Cv Tryz.prog (GX X) 70 [xS a0] (r_r01_Reserved r) := by
  refine Cs.toV (?_ : Cs Tryz.prog (GX X) 70 [xS a0] [] (r_r01_Reserved r) (o_r01_Reserved r)) (by kernel_rfl)
  refine fnT (cx := cx X) Tryz.f70 Tryz.call70 Tryz.func70 (by kernel_rfl) ?_
  unfold r01_Reserved at h
  obtain ⟨v1, k1, h⟩ := bindE h
  refine adv (ok X) 7 [.c (r_r01_words v1)] (pA (m_r01_words (X := X) k1) pT) (by kernel_rfl) ?_
  refine lp (ok X) (r01_Reserved_l1 a0 v1) (fun (x1 : Int) => ⟨18, 0, [(0, [xS a0]), (3, [xL (List.map e_str v1)]), (4, [xI x1])], []⟩) (fun (j1 : Unit) => ⟨18, 0, [], []⟩) R_r01_Reserved 0 (fun _ => ⟨_, _, _, _, rfl⟩) h (by kernel_rfl) (fun x1 o h => ?_) (fun r' h => ?_) (fun j1 h => ?_)
  · unfold r01_Reserved_l1 at h
    refine adv (ok X) 3 [.i (v1.length : Int)] (pA (lm e_str v1) pT) (by kernel_rfl) ?_
    rcases iteE h with ⟨k2, h⟩ | ⟨k2, h⟩
    · obtain ⟨v2, k3, h⟩ := bindE h
      refine adv (ok X) 6 [.b true, .e [.str v2]] (pA k2 (pA (ixm e_str k3) pT)) (by kernel_rfl) ?_
      rcases iteE h with ⟨k4, h⟩ | ⟨k4, h⟩
      · obtain rfl := retE h
        exact fin (ok X) 4 [.b true] (pA k4 pT) (by kernel_rfl)
      · obtain rfl := retE h
        exact fin (ok X) 4 [.b false] (pA k4 pT) (by kernel_rfl)
    · obtain rfl := retE h
      exact fin (ok X) 2 [.b false] (pA k2 pT) (by kernel_rfl)
  · obtain rfl := retE h
    kernel_rfl
  · obtain rfl := retE h
    exact fin (ok X) 3 [] pT (by kernel_rfl)

theorem m_r01_sign {a0 : ByteArray} {a1 : Int} {r : Int} (h : r01_sign a0 a1 = some r) : Cv Tryz.prog (GX X) 71 [xS a0, xI a1] (r_r01_sign r) := by
  refine Cs.toV (?_ : Cs Tryz.prog (GX X) 71 [xS a0, xI a1] [] (r_r01_sign r) (o_r01_sign r)) (by kernel_rfl)
  refine fnT (cx := cx X) Tryz.f71 Tryz.call71 Tryz.func71 (by kernel_rfl) ?_
  unfold r01_sign at h
  refine adv (ok X) 7 [] pT (by kernel_rfl) ?_
  refine lp (ok X) (r01_sign_l1 a0 a1) (fun (x1 : Int) => ⟨44, 0, [(0, [xS a0]), (1, [xI a1]), (5, [xL (List.map e_str [(ByteArray.mk #[61, 61]), (ByteArray.mk #[33, 61]), (ByteArray.mk #[60, 61]), (ByteArray.mk #[62, 61])])]), (6, [xI x1])], []⟩) (fun (j1 : Unit) => ⟨44, 0, [(0, [xS a0]), (1, [xI a1])], []⟩) R_r01_sign 0 (fun _ => ⟨_, _, _, _, rfl⟩) h (by kernel_rfl) (fun x1 o h => ?_) (fun r' h => ?_) (fun j1 h => ?_)
  · unfold r01_sign_l1 at h
    rcases iteE h with ⟨k1, h⟩ | ⟨k1, h⟩
    · refine adv (ok X) 8 [.b true] (pA k1 pT) (by kernel_rfl) ?_
      refine jn (ok X) 1 (fun (j2 : Bool) => ⟨44, 0, [(0, [xS a0]), (1, [xI a1]), (5, [xL (List.map e_str [(ByteArray.mk #[61, 61]), (ByteArray.mk #[33, 61]), (ByteArray.mk #[60, 61]), (ByteArray.mk #[62, 61])])]), (6, [xI x1]), (30, [xB j2])], []⟩) h (fun j2 h => ?_) (fun j2 h => ?_)
      · rcases iteE h with ⟨k2, h⟩ | ⟨k2, h⟩
        · obtain ⟨v1, k3, h⟩ := bindE h
          obtain ⟨v2, k4, h⟩ := bindE h
          obtain rfl := retE h
          exact fin (ok X) 1 [.o [0, 1, 2, 3, 4, 5, 6, 7, 8, 9, 10, 11, 12, 13, 14, 15, 16], .b true, .b true, .b true, .b true, .b true, .x [xS v1], .b true, .b true, .b true, .e [.str v2], .b true, .b true, .b true] (pA k2 (pA k2 (pA k2 (pA k2 (pA k2 (pA k3 (pA k2 (pA k2 (pA k2 (pA (ixm e_str k4) (pA k2 (pA k2 (pA k2 pT))))))))))))) (by kernel_rfl)
        · obtain rfl := retE h
          exact fin (ok X) 1 [.o [0, 1, 2, 3, 4, 5, 6, 7, 8, 9, 10, 11, 12, 13, 14, 15, 16], .b false, .b false, .b false, .b false, .b false, .b false, .b false, .b false, .b false, .b false, .b false] (pA k2 (pA k2 (pA k2 (pA k2 (pA k2 (pA k2 (pA k2 (pA k2 (pA k2 (pA k2 (pA k2 pT))))))))))) (by kernel_rfl)
      · rcases iteE h with ⟨k5, h⟩ | ⟨k5, h⟩
        · obtain rfl := retE h
          exact fin (ok X) 4 [.b true] (pA k5 pT) (by kernel_rfl)
        · obtain rfl := retE h
          exact fin (ok X) 4 [.b false] (pA k5 pT) (by kernel_rfl)
    · obtain rfl := retE h
      exact fin (ok X) 5 [.b false] (pA k1 pT) (by kernel_rfl)
  · obtain rfl := retE h
    kernel_rfl
  · refine adv (ok X) 5 [] pT (by kernel_rfl) ?_
    refine lp (ok X) (r01_sign_l3 a0 a1) (fun (x3 : Int) => ⟨44, 0, [(0, [xS a0]), (1, [xI a1]), (7, [xS (ByteArray.mk #[123, 125, 40, 41, 59, 44, 46, 61, 60, 62, 43, 45, 42, 47, 37])]), (8, [xI x3])], []⟩) (fun (j3 : Unit) => ⟨44, 0, [], []⟩) R_r01_sign 0 (fun _ => ⟨_, _, _, _, rfl⟩) h (by kernel_rfl) (fun x3 o h => ?_) (fun r' h => ?_) (fun j3 h => ?_)
    · unfold r01_sign_l3 at h
      rcases iteE h with ⟨k6, h⟩ | ⟨k6, h⟩
      · obtain ⟨v3, k7, h⟩ := bindE h
        obtain ⟨v4, k8, h⟩ := bindE h
        refine adv (ok X) 9 [.b true, .o [0, 1, 2, 3, 4, 5, 6], .i v3, .i v4] (pA k6 (pA k7 (pA k8 pT))) (by kernel_rfl) ?_
        rcases iteE h with ⟨k9, h⟩ | ⟨k9, h⟩
        · obtain rfl := retE h
          exact fin (ok X) 4 [.b true] (pA k9 pT) (by kernel_rfl)
        · obtain rfl := retE h
          exact fin (ok X) 4 [.b false] (pA k9 pT) (by kernel_rfl)
      · obtain rfl := retE h
        exact fin (ok X) 5 [.b false] (pA k6 pT) (by kernel_rfl)
    · obtain rfl := retE h
      kernel_rfl
    · obtain rfl := retE h
      exact fin (ok X) 3 [] pT (by kernel_rfl)

theorem m_r01_Lex {a0 : ByteArray} {r : ((List r01_Token) × Int × Int)} (h : r01_Lex a0 = some r) : Cv Tryz.prog (GX X) 53 [xS a0] (r_r01_Lex r) := by
  refine Cs.toV (?_ : Cs Tryz.prog (GX X) 53 [xS a0] [] (r_r01_Lex r) (o_r01_Lex r)) (by kernel_rfl)
  refine fnT (cx := cx X) Tryz.f53 Tryz.call53 Tryz.func53 (by kernel_rfl) ?_
  unfold r01_Lex at h
  refine adv (ok X) 7 [] pT (by kernel_rfl) ?_
  refine lp (ok X) (r01_Lex_l1 a0) (fun (x1 : (Int × (List r01_Token))) => ⟨153, 0, [(0, [xS a0]), (5, [xR 0]), (6, [xI x1.1])], [oR true 141 4 (List.map e_r01_Token x1.2)]⟩) (fun (j1 : (List r01_Token)) => ⟨153, 0, [(0, [xS a0]), (5, [xR 0])], [oR true 141 4 (List.map e_r01_Token j1)]⟩) R_r01_Lex (0, []) (fun _ => ⟨_, _, _, _, rfl⟩) h (by kernel_rfl) (fun x1 o h => ?_) (fun r' h => ?_) (fun j1 h => ?_)
  · unfold r01_Lex_l1 at h
    rcases iteE h with ⟨k1, h⟩ | ⟨k1, h⟩
    · obtain ⟨v1, k2, h⟩ := bindE h
      refine adv (ok X) 10 [.b true, .i v1] (pA k1 (pA k2 pT)) (by kernel_rfl) ?_
      refine jn (ok X) 1 (fun (j2 : Bool) => ⟨153, 0, [(0, [xS a0]), (5, [xR 0]), (6, [xI x1.1]), (7, [.c (.pv (.int .u8 v1))]), (24, [xB j2])], [oR true 141 4 (List.map e_r01_Token x1.2)]⟩) h (fun j2 h => ?_) (fun j2 h => ?_)
      · rcases iteE h with ⟨k3, h⟩ | ⟨k3, h⟩
        · obtain rfl := retE h
          exact fin (ok X) 1 [.b true, .b true, .b true] (pA k3 (pA k3 (pA k3 pT))) (by kernel_rfl)
        · obtain rfl := retE h
          exact fin (ok X) 1 [.b false, .b false, .b false] (pA k3 (pA k3 (pA k3 pT))) (by kernel_rfl)
      · rcases iteE h with ⟨k4, h⟩ | ⟨k4, h⟩
        · obtain rfl := retE h
          exact fin (ok X) 4 [.b true] (pA k4 pT) (by kernel_rfl)
        · refine adv (ok X) 5 [.b false] (pA k4 pT) (by kernel_rfl) ?_
          refine lp (ok X) (r01_Lex_l3 a0 v1) (fun (x3 : Int) => ⟨153, 0, [(0, [xS a0]), (5, [xR 0]), (6, [xI x1.1]), (7, [.c (.pv (.int .u8 v1))]), (8, [xI x3])], [oR true 141 4 (List.map e_r01_Token x1.2)]⟩) (fun (j3 : Int) => ⟨153, 0, [(0, [xS a0]), (5, [xR 0]), (6, [xI x1.1]), (7, [.c (.pv (.int .u8 v1))]), (8, [xI j3])], [oR true 141 4 (List.map e_r01_Token x1.2)]⟩) R_r01_Lex x1.1 (fun _ => ⟨_, _, _, _, rfl⟩) h (by kernel_rfl) (fun x3 o h => ?_) (fun r' h => ?_) (fun j3 h => ?_)
          · unfold r01_Lex_l3 at h
            refine adv (ok X) 2 [] pT (by kernel_rfl) ?_
            refine jn (ok X) 1 (fun (j4 : Bool) => ⟨153, 0, [(0, [xS a0]), (5, [xR 0]), (6, [xI x1.1]), (7, [.c (.pv (.int .u8 v1))]), (8, [xI x3]), (51, [xB j4])], [oR true 141 4 (List.map e_r01_Token x1.2)]⟩) h (fun j4 h => ?_) (fun j4 h => ?_)
            · rcases iteE h with ⟨k5, h⟩ | ⟨k5, h⟩
              · obtain ⟨v2, k6, h⟩ := bindE h
                rcases iteE h with ⟨k7, h⟩ | ⟨k7, h⟩
                · obtain ⟨v3, k8, h⟩ := bindE h
                  obtain ⟨v4, k9, h⟩ := bindE h
                  rcases iteE h with ⟨k10, h⟩ | ⟨k10, h⟩
                  · obtain rfl := retE h
                    exact fin (ok X) 1 [.b true, .b true, .c (r_r01_letter v2), .b true, .b true, .b true, .b true, .b true, .b true, .b true, .b true, .b true, .i v3, .b true, .c (r_r01_letter v4), .b true, .b true, .b true, .b true, .b true, .b true, .b true, .b true] (pA k5 (pA k5 (pA (m_r01_letter (X := X) k6) (pA k5 (pA k7 (pA k7 (pA k5 (pA k7 (pA k5 (pA tt (pA tt (pA tt (pA k8 (pA tt (pA (m_r01_letter (X := X) k9) (pA tt (pA k10 (pA k10 (pA k10 (pA k10 (pA tt (pA k10 (pA tt pT))))))))))))))))))))))) (by kernel_rfl)
                  · obtain ⟨v5, k11, h⟩ := bindE h
                    obtain ⟨v6, k12, h⟩ := bindE h
                    obtain rfl := retE h
                    exact fin (ok X) 1 [.b true, .b true, .c (r_r01_letter v2), .b true, .b true, .b true, .b true, .b true, .b true, .b true, .b true, .b true, .i v3, .b true, .c (r_r01_letter v4), .b true, .b false, .b false, .b false, .i v5, .b false, .c (r_r01_digit v6), .b true, .b false, .b true] (pA k5 (pA k5 (pA (m_r01_letter (X := X) k6) (pA k5 (pA k7 (pA k7 (pA k5 (pA k7 (pA k5 (pA tt (pA tt (pA tt (pA k8 (pA tt (pA (m_r01_letter (X := X) k9) (pA tt (pA k10 (pA k10 (pA k10 (pA k11 (pA k10 (pA (m_r01_digit (X := X) k12) (pA tt (pA k10 (pA tt pT))))))))))))))))))))))))) (by kernel_rfl)
                · obtain ⟨v7, k13, h⟩ := bindE h
                  rcases iteE h with ⟨k14, h⟩ | ⟨k14, h⟩
                  · obtain ⟨v8, k15, h⟩ := bindE h
                    obtain ⟨v9, k16, h⟩ := bindE h
                    rcases iteE h with ⟨k17, h⟩ | ⟨k17, h⟩
                    · obtain rfl := retE h
                      exact fin (ok X) 1 [.b true, .b true, .c (r_r01_letter v2), .b true, .b false, .b false, .c (r_r01_digit v7), .b true, .b false, .b true, .b true, .b true, .b true, .i v8, .b true, .c (r_r01_letter v9), .b true, .b true, .b true, .b true, .b true, .b true, .b true, .b true] (pA k5 (pA k5 (pA (m_r01_letter (X := X) k6) (pA k5 (pA k7 (pA k7 (pA (m_r01_digit (X := X) k13) (pA k5 (pA k7 (pA k5 (pA k14 (pA k14 (pA k14 (pA k15 (pA k14 (pA (m_r01_letter (X := X) k16) (pA k14 (pA k17 (pA k17 (pA k17 (pA k17 (pA k14 (pA k17 (pA k14 pT)))))))))))))))))))))))) (by kernel_rfl)
                    · obtain ⟨v10, k18, h⟩ := bindE h
                      obtain ⟨v11, k19, h⟩ := bindE h
                      obtain rfl := retE h
                      exact fin (ok X) 1 [.b true, .b true, .c (r_r01_letter v2), .b true, .b false, .b false, .c (r_r01_digit v7), .b true, .b false, .b true, .b true, .b true, .b true, .i v8, .b true, .c (r_r01_letter v9), .b true, .b false, .b false, .b false, .i v10, .b false, .c (r_r01_digit v11), .b true, .b false, .b true] (pA k5 (pA k5 (pA (m_r01_letter (X := X) k6) (pA k5 (pA k7 (pA k7 (pA (m_r01_digit (X := X) k13) (pA k5 (pA k7 (pA k5 (pA k14 (pA k14 (pA k14 (pA k15 (pA k14 (pA (m_r01_letter (X := X) k16) (pA k14 (pA k17 (pA k17 (pA k17 (pA k18 (pA k17 (pA (m_r01_digit (X := X) k19) (pA k14 (pA k17 (pA k14 pT)))))))))))))))))))))))))) (by kernel_rfl)
                  · obtain rfl := retE h
                    exact fin (ok X) 1 [.b true, .b true, .c (r_r01_letter v2), .b true, .b false, .b false, .c (r_r01_digit v7), .b true, .b false, .b true, .b false, .b false, .b false, .b false, .b false, .b false, .b false] (pA k5 (pA k5 (pA (m_r01_letter (X := X) k6) (pA k5 (pA k7 (pA k7 (pA (m_r01_digit (X := X) k13) (pA k5 (pA k7 (pA k5 (pA k14 (pA k14 (pA k14 (pA k14 (pA k14 (pA k14 (pA k14 pT))))))))))))))))) (by kernel_rfl)
              · obtain rfl := retE h
                exact fin (ok X) 1 [.b false, .b false, .b false, .b false, .b false, .b false, .b false, .b false, .b false, .b false, .b false, .b false] (pA k5 (pA k5 (pA k5 (pA k5 (pA k5 (pA ff (pA ff (pA ff (pA ff (pA ff (pA ff (pA ff pT)))))))))))) (by kernel_rfl)
            · rcases iteE h with ⟨k20, h⟩ | ⟨k20, h⟩
              · obtain rfl := retE h
                exact fin (ok X) 5 [.b true] (pA k20 pT) (by kernel_rfl)
              · obtain rfl := retE h
                exact fin (ok X) 2 [.b false] (pA k20 pT) (by kernel_rfl)
          · cases h
          · refine adv (ok X) 3 [] pT (by kernel_rfl) ?_
            refine jr (ok X) 1 (fun (j5 : (Int × Int × ByteArray × Int)) => ⟨153, 0, [(0, [xS a0]), (5, [xR 0]), (8, [xI j5.1]), (9, [xP 1 0])], [oR true 141 4 (List.map e_r01_Token x1.2), oB 141 (bs (e_r01_Token (r01_Token.mk j5.2.1 j5.2.2.1 j5.2.2.2 x1.1)))]⟩) R_r01_Lex (fun _ => ⟨_, _, _, _, rfl⟩) h (fun o h => ?_) (fun r' h => ?_) (fun j5 h => ?_)
            · obtain ⟨v12, k21, h⟩ := bindE h
              refine adv (ok X) 3 [.c (r_r01_letter v12)] (pA (m_r01_letter (X := X) k21) pT) (by kernel_rfl) ?_
              rcases iteE h with ⟨k22, h⟩ | ⟨k22, h⟩
              · obtain ⟨v13, k23, h⟩ := bindE h
                obtain ⟨v14, k24, h⟩ := bindE h
                refine adv (ok X) 6 [.b true, .o [0, 1, 2, 3, 4, 5, 6, 7], .x [xS v13], .c (r_r01_Reserved v14)] (pA k22 (pA k23 (pA (m_r01_Reserved (X := X) k24) pT))) (by kernel_rfl) ?_
                rcases iteE h with ⟨k25, h⟩ | ⟨k25, h⟩
                · refine adv (ok X) 4 [.b true] (pA k25 pT) (by kernel_rfl) ?_
                  rcases iteE h with ⟨k26, h⟩ | ⟨k26, h⟩
                  · obtain rfl := retE h
                    exact fin (ok X) 4 [.b true] (pA k26 pT) (by kernel_rfl)
                  · obtain rfl := retE h
                    exact fin (ok X) 3 [.b false] (pA k26 pT) (by kernel_rfl)
                · refine adv (ok X) 4 [.b false] (pA k25 pT) (by kernel_rfl) ?_
                  rcases iteE h with ⟨k27, h⟩ | ⟨k27, h⟩
                  · obtain rfl := retE h
                    exact fin (ok X) 4 [.b true] (pA k27 pT) (by kernel_rfl)
                  · obtain rfl := retE h
                    exact fin (ok X) 3 [.b false] (pA k27 pT) (by kernel_rfl)
              · obtain ⟨v15, k28, h⟩ := bindE h
                refine adv (ok X) 3 [.b false, .c (r_r01_digit v15)] (pA k22 (pA (m_r01_digit (X := X) k28) pT)) (by kernel_rfl) ?_
                rcases iteE h with ⟨k29, h⟩ | ⟨k29, h⟩
                · obtain ⟨v16, k30, h⟩ := bindE h
                  refine adv (ok X) 5 [.b true, .o [0, 1, 2, 3, 4, 5, 6, 7], .x [xS v16]] (pA k29 (pA k30 pT)) (by kernel_rfl) ?_
                  refine jn (ok X) 1 (fun (j6 : Bool) => ⟨153, 0, [(0, [xS a0]), (5, [xR 0]), (6, [xI x1.1]), (8, [xI j3]), (9, [xP 1 0]), (111, [xB j6])], [oR true 141 4 (List.map e_r01_Token x1.2), oB 141 (bs (e_r01_Token (r01_Token.mk 2 v16 0 x1.1)))]⟩) h (fun j6 h => ?_) (fun j6 h => ?_)
                  · rcases iteE h with ⟨k31, h⟩ | ⟨k31, h⟩
                    · obtain rfl := retE h
                      exact fin (ok X) 1 [.b true, .b true, .b true, .b true, .b true, .b true, .b true] (pA k31 (pA k31 (pA k31 (pA k31 (pA k31 (pA k31 (pA k31 pT))))))) (by kernel_rfl)
                    · rcases iteE h with ⟨k32, h⟩ | ⟨k32, h⟩
                      · obtain rfl := retE h
                        exact fin (ok X) 1 [.b false, .b false, .b false, .b false, .b false, .b true, .b true, .b false, .b true, .b false] (pA k31 (pA k31 (pA k31 (pA k31 (pA k31 (pA k32 (pA k32 (pA k31 (pA k32 (pA k31 pT)))))))))) (by kernel_rfl)
                      · obtain rfl := retE h
                        exact fin (ok X) 1 [.b false, .b false, .b false, .b false, .b false, .b false, .b false, .b false, .b false, .b false] (pA k31 (pA k31 (pA k31 (pA k31 (pA k31 (pA k32 (pA k32 (pA k31 (pA k32 (pA k31 pT)))))))))) (by kernel_rfl)
                  · rcases iteE h with ⟨k33, h⟩ | ⟨k33, h⟩
                    · obtain rfl := retE h
                      exact fin (ok X) 4 [.b true] (pA k33 pT) (by kernel_rfl)
                    · refine adv (ok X) 5 [.b false] (pA k33 pT) (by kernel_rfl) ?_
                      refine lp (ok X) (r01_Lex_l7 v16 x1) (fun (x7 : (Int × Int)) => ⟨153, 0, [(0, [xS a0]), (5, [xR 0]), (6, [xI x1.1]), (8, [xI j3]), (9, [xP 1 0]), (10, [xI x7.1])], [oR true 141 4 (List.map e_r01_Token x1.2), oB 141 (bs (e_r01_Token (r01_Token.mk 2 v16 x7.2 x1.1)))]⟩) (fun (j7 : Int) => ⟨153, 0, [(0, [xS a0]), (5, [xR 0]), (6, [xI x1.1]), (8, [xI j3]), (9, [xP 1 0])], [oR true 141 4 (List.map e_r01_Token x1.2), oB 141 (bs (e_r01_Token (r01_Token.mk 2 v16 j7 x1.1)))]⟩) R_r01_Lex (0, 0) (fun _ => ⟨_, _, _, _, rfl⟩) h (by kernel_rfl) (fun x7 o h => ?_) (fun r' h => ?_) (fun j7 h => ?_)
                      · unfold r01_Lex_l7 at h
                        rcases iteE h with ⟨k34, h⟩ | ⟨k34, h⟩
                        · obtain ⟨v17, k35, h⟩ := bindE h
                          obtain ⟨v18, k36, h⟩ := bindE h
                          refine adv (ok X) 10 [.b true, .i v17, .c (r_r01_digit v18)] (pA k34 (pA k35 (pA (m_r01_digit (X := X) k36) pT))) (by kernel_rfl) ?_
                          rcases iteE h with ⟨k37, h⟩ | ⟨k37, h⟩
                          · obtain rfl := retE h
                            exact fin (ok X) 4 [.b true] (pA k37 pT) (by kernel_rfl)
                          · obtain ⟨v19, k38, h⟩ := bindE h
                            obtain rfl := retE h
                            exact fin (ok X) 5 [.b false, .o [0, 1, 2, 3, 4, 5, 6, 7, 8, 9, 10, 11], .i v19] (pA k37 (pA k38 pT)) (by kernel_rfl)
                        · obtain rfl := retE h
                          exact fin (ok X) 5 [.b false] (pA k34 pT) (by kernel_rfl)
                      · obtain rfl := retE h
                        kernel_rfl
                      · rcases iteE h with ⟨k39, h⟩ | ⟨k39, h⟩
                        · obtain rfl := retE h
                          exact fin (ok X) 6 [.b true] (pA k39 pT) (by kernel_rfl)
                        · obtain rfl := retE h
                          exact fin (ok X) 5 [.b false] (pA k39 pT) (by kernel_rfl)
                · obtain ⟨v20, k40, h⟩ := bindE h
                  refine adv (ok X) 6 [.b false, .c (r_r01_sign v20)] (pA k29 (pA (m_r01_sign (X := X) k40) pT)) (by kernel_rfl) ?_
                  rcases iteE h with ⟨k41, h⟩ | ⟨k41, h⟩
                  · obtain rfl := retE h
                    exact fin (ok X) 4 [.b true] (pA k41 pT) (by kernel_rfl)
                  · obtain ⟨v21, k42, h⟩ := bindE h
                    obtain rfl := retE h
                    exact fin (ok X) 6 [.b false, .o [0, 1, 2, 3, 4, 5, 6, 7], .x [xS v21]] (pA k41 (pA k42 pT)) (by kernel_rfl)
            · obtain rfl := retE h
              kernel_rfl
            · obtain ⟨v22, k43, h⟩ := bindE h
              obtain rfl := retE h
              exact fin (ok X) 4 [.l (List.map e_r01_Token v22)] (pA (apm (L := x1.2) (M := [(r01_Token.mk j5.2.1 j5.2.2.1 j5.2.2.2 x1.1)]) e_r01_Token_len k43) pT) (by kernel_rfl)
    · obtain rfl := retE h
      exact fin (ok X) 5 [.b false] (pA k1 pT) (by kernel_rfl)
  · obtain rfl := retE h
    kernel_rfl
  · refine adv (ok X) 3 [.i (j1.length : Int)] (pA (lm e_r01_Token j1) pT) (by kernel_rfl) ?_
    rcases iteE h with ⟨k44, h⟩ | ⟨k44, h⟩
    · obtain rfl := retE h
      exact fin (ok X) 4 [.b true] (pA k44 pT) (by kernel_rfl)
    · obtain rfl := retE h
      exact fin (ok X) 5 [.b false] (pA k44 pT) (by kernel_rfl)

theorem m_r02_name {a0 : ByteArray} {r : Bool} (h : r02_name a0 = some r) : Cv Tryz.prog (GX X) 38 [xS a0] (r_r02_name r) := by
  refine Cs.toV (?_ : Cs Tryz.prog (GX X) 38 [xS a0] [] (r_r02_name r) (o_r02_name r)) (by kernel_rfl)
  refine fnT (cx := cx X) Tryz.f38 Tryz.call38 Tryz.func38 (by kernel_rfl) ?_
  unfold r02_name at h
  obtain ⟨v1, k1, h⟩ := bindE h
  refine adv (ok X) 5 [.c (r_r01_Lex v1)] (pA (m_r01_Lex (X := X) k1) pT) (by kernel_rfl) ?_
  rcases iteE h with ⟨k2, h⟩ | ⟨k2, h⟩
  · rcases iteE h with ⟨k3, h⟩ | ⟨k3, h⟩
    · obtain ⟨v2, k4, h⟩ := bindE h
      rcases iteE h with ⟨k5, h⟩ | ⟨k5, h⟩
      · obtain ⟨v3, k6, h⟩ := bindE h
        obtain rfl := retE h
        exact fin (ok X) 2 [.b true, .b true, .i (v1.1.length : Int), .b true, .b true, .b true, .b true, .e (e_r01_Token v2), .b true, .b true, .b true, .b true, .b true, .b true, .e (e_r01_Token v3), .b true, .b true, .b true, .b true, .b true] (pA k2 (pA k2 (pA (lm e_r01_Token v1.1) (pA k2 (pA k2 (pA k3 (pA k3 (pA (ixm e_r01_Token k4) (pA k3 (pA k3 (pA k3 (pA k3 (pA k5 (pA k5 (pA (ixm e_r01_Token k6) (pA k5 (pA k5 (pA k5 (pA k5 (pA k5 pT)))))))))))))))))))) (by kernel_rfl)
      · obtain rfl := retE h
        exact fin (ok X) 2 [.b true, .b true, .i (v1.1.length : Int), .b true, .b true, .b true, .b true, .e (e_r01_Token v2), .b true, .b true, .b true, .b true, .b false, .b false, .b false, .b false, .b false, .b false, .b false] (pA k2 (pA k2 (pA (lm e_r01_Token v1.1) (pA k2 (pA k2 (pA k3 (pA k3 (pA (ixm e_r01_Token k4) (pA k3 (pA k3 (pA k3 (pA k3 (pA k5 (pA k5 (pA k5 (pA k5 (pA k5 (pA k5 (pA k5 pT))))))))))))))))))) (by kernel_rfl)
    · obtain rfl := retE h
      exact fin (ok X) 2 [.b true, .b true, .i (v1.1.length : Int), .b true, .b true, .b false, .b false, .b false, .b false, .b false, .b false, .b false, .b false, .b false, .b false, .b false, .b false, .b false] (pA k2 (pA k2 (pA (lm e_r01_Token v1.1) (pA k2 (pA k2 (pA k3 (pA k3 (pA k3 (pA k3 (pA k3 (pA k3 (pA ff (pA ff (pA ff (pA ff (pA ff (pA ff (pA ff pT)))))))))))))))))) (by kernel_rfl)
  · obtain rfl := retE h
    exact fin (ok X) 2 [.b false, .b false, .b false, .b false, .b false, .b false, .b false, .b false, .b false, .b false, .b false, .b false, .b false, .b false, .b false, .b false, .b false] (pA k2 (pA k2 (pA k2 (pA k2 (pA ff (pA ff (pA ff (pA ff (pA ff (pA ff (pA ff (pA ff (pA ff (pA ff (pA ff (pA ff (pA ff pT))))))))))))))))) (by kernel_rfl)

theorem m_r02_number {a0 : Int} {r : Bool} (h : r02_number a0 = some r) : Cv Tryz.prog (GX X) 39 [xI a0] (r_r02_number r) := by
  refine Cs.toV (?_ : Cs Tryz.prog (GX X) 39 [xI a0] [] (r_r02_number r) (o_r02_number r)) (by kernel_rfl)
  refine fnT (cx := cx X) Tryz.f39 Tryz.call39 Tryz.func39 (by kernel_rfl) ?_
  unfold r02_number at h
  rcases iteE h with ⟨k1, h⟩ | ⟨k1, h⟩
  · obtain rfl := retE h
    exact fin (ok X) 5 [.b true, .b true, .b true] (pA k1 (pA k1 (pA k1 pT))) (by kernel_rfl)
  · obtain rfl := retE h
    exact fin (ok X) 5 [.b false, .b false, .b false] (pA k1 (pA k1 (pA k1 pT))) (by kernel_rfl)

theorem m_r02_two {a0 : Int} {r : Bool} (h : r02_two a0 = some r) : Cv Tryz.prog (GX X) 56 [xI a0] (r_r02_two r) := by
  refine Cs.toV (?_ : Cs Tryz.prog (GX X) 56 [xI a0] [] (r_r02_two r) (o_r02_two r)) (by kernel_rfl)
  refine fnT (cx := cx X) Tryz.f56 Tryz.call56 Tryz.func56 (by kernel_rfl) ?_
  unfold r02_two at h
  rcases iteE h with ⟨k1, h⟩ | ⟨k1, h⟩
  · obtain rfl := retE h
    exact fin (ok X) 5 [.b true, .b true, .b true] (pA k1 (pA k1 (pA k1 pT))) (by kernel_rfl)
  · obtain rfl := retE h
    exact fin (ok X) 5 [.b false, .b false, .b false] (pA k1 (pA k1 (pA k1 pT))) (by kernel_rfl)

theorem s_r02_expr {n : Nat} (ih_r02_expr : ∀ (a0 : r02_Expr) (r : Bool), r02_exprN n a0 = some r → Cv Tryz.prog (GX X) 54 [.agg (bs (f_r02_Expr a0))] (r_r02_expr r)) (a0 : r02_Expr) (r : Bool) (h : r02_exprN (n + 1) a0 = some r) : Cv Tryz.prog (GX X) 54 [.agg (bs (f_r02_Expr a0))] (r_r02_expr r) := by
  refine Cs.toV (?_ : Cs Tryz.prog (GX X) 54 [.agg (bs (f_r02_Expr a0))] [] (r_r02_expr r) (o_r02_expr r)) (by kernel_rfl)
  refine fnT (cx := cx X) Tryz.f54 Tryz.call54 Tryz.func54 (by kernel_rfl) ?_
  rw [r02_exprN] at h
  rcases iteE h with ⟨k1, h⟩ | ⟨k1, h⟩
  · refine adv (ok X) 8 [.b true] (pA k1 pT) (by kernel_rfl) ?_
    refine jn (ok X) 1 (fun (j1 : Bool) => ⟨66, 0, [(2, [xB j1])], []⟩) h (fun j1 h => ?_) (fun j1 h => ?_)
    · obtain ⟨v1, k2, h⟩ := bindE h
      rcases iteE h with ⟨k3, h⟩ | ⟨k3, h⟩
      · obtain rfl := retE h
        exact fin (ok X) 1 [.c (r_r02_number v1), .b true, .b true, .b true, .i (a0.Kids.length : Int), .b true, .b true] (pA (m_r02_number (X := X) k2) (pA k3 (pA k3 (pA k3 (pA (lm e_r02_Expr a0.Kids) (pA k3 (pA k3 pT))))))) (by kernel_rfl)
      · obtain rfl := retE h
        exact fin (ok X) 1 [.c (r_r02_number v1), .b false, .b false, .b false, .b false, .b false] (pA (m_r02_number (X := X) k2) (pA k3 (pA k3 (pA k3 (pA k3 (pA k3 pT)))))) (by kernel_rfl)
    · obtain rfl := retE h
      exact fin (ok X) 1 [] pT (by kernel_rfl)
  · refine adv (ok X) 9 [.b false] (pA k1 pT) (by kernel_rfl) ?_
    rcases iteE h with ⟨k4, h⟩ | ⟨k4, h⟩
    · refine adv (ok X) 2 [.b true] (pA k4 pT) (by kernel_rfl) ?_
      refine jn (ok X) 1 (fun (j2 : Bool) => ⟨66, 0, [(2, [xB j2])], []⟩) h (fun j2 h => ?_) (fun j2 h => ?_)
      · obtain ⟨v2, k5, h⟩ := bindE h
        rcases iteE h with ⟨k6, h⟩ | ⟨k6, h⟩
        · obtain rfl := retE h
          exact fin (ok X) 1 [.c (r_r02_name v2), .b true, .b true, .b true, .i (a0.Kids.length : Int), .b true, .b true] (pA (m_r02_name (X := X) k5) (pA k6 (pA k6 (pA k6 (pA (lm e_r02_Expr a0.Kids) (pA k6 (pA k6 pT))))))) (by kernel_rfl)
        · obtain rfl := retE h
          exact fin (ok X) 1 [.c (r_r02_name v2), .b false, .b false, .b false, .b false, .b false] (pA (m_r02_name (X := X) k5) (pA k6 (pA k6 (pA k6 (pA k6 (pA k6 pT)))))) (by kernel_rfl)
      · obtain rfl := retE h
        exact fin (ok X) 1 [] pT (by kernel_rfl)
    · refine adv (ok X) 3 [.b false] (pA k4 pT) (by kernel_rfl) ?_
      rcases iteE h with ⟨k7, h⟩ | ⟨k7, h⟩
      · refine adv (ok X) 2 [.b true] (pA k7 pT) (by kernel_rfl) ?_
        refine jn (ok X) 1 (fun (j3 : Bool) => ⟨66, 0, [(2, [xB j3])], []⟩) h (fun j3 h => ?_) (fun j3 h => ?_)
        · rcases iteE h with ⟨k8, h⟩ | ⟨k8, h⟩
          · obtain ⟨v3, k9, h⟩ := bindE h
            obtain ⟨v4, k10, h⟩ := bindE h
            obtain rfl := retE h
            exact fin (ok X) 1 [.i (a0.Kids.length : Int), .b true, .b true, .b true, .e (f_r02_Expr v3), .b true, .b true, .c (r_r02_expr v4), .b true] (pA (lm e_r02_Expr a0.Kids) (pA k8 (pA k8 (pA k8 (pA (ixr e_r02_Expr_eq k9) (pA k8 (pA k8 (pA (ih_r02_expr _ _ k10) (pA k8 pT))))))))) (by kernel_rfl)
          · obtain rfl := retE h
            exact fin (ok X) 1 [.i (a0.Kids.length : Int), .b false, .b false, .b false, .b false, .b false, .b false] (pA (lm e_r02_Expr a0.Kids) (pA k8 (pA k8 (pA k8 (pA k8 (pA k8 (pA k8 pT))))))) (by kernel_rfl)
        · obtain rfl := retE h
          exact fin (ok X) 1 [] pT (by kernel_rfl)
      · obtain ⟨v5, k11, h⟩ := bindE h
        refine adv (ok X) 3 [.b false, .c (r_r02_two v5)] (pA k7 (pA (m_r02_two (X := X) k11) pT)) (by kernel_rfl) ?_
        rcases iteE h with ⟨k12, h⟩ | ⟨k12, h⟩
        · refine adv (ok X) 2 [.b true] (pA k12 pT) (by kernel_rfl) ?_
          refine jn (ok X) 1 (fun (j4 : Bool) => ⟨66, 0, [(2, [xB j4])], []⟩) h (fun j4 h => ?_) (fun j4 h => ?_)
          · rcases iteE h with ⟨k13, h⟩ | ⟨k13, h⟩
            · obtain ⟨v6, k14, h⟩ := bindE h
              obtain ⟨v7, k15, h⟩ := bindE h
              rcases iteE h with ⟨k16, h⟩ | ⟨k16, h⟩
              · obtain ⟨v8, k17, h⟩ := bindE h
                obtain ⟨v9, k18, h⟩ := bindE h
                obtain rfl := retE h
                exact fin (ok X) 1 [.i (a0.Kids.length : Int), .b true, .b true, .b true, .e (f_r02_Expr v6), .b true, .b true, .c (r_r02_expr v7), .b true, .b true, .b true, .b true, .e (f_r02_Expr v8), .b true, .b true, .c (r_r02_expr v9), .b true] (pA (lm e_r02_Expr a0.Kids) (pA k13 (pA k13 (pA k13 (pA (ixr e_r02_Expr_eq k14) (pA k13 (pA k13 (pA (ih_r02_expr _ _ k15) (pA k13 (pA k16 (pA k16 (pA k16 (pA (ixr e_r02_Expr_eq k17) (pA k16 (pA k16 (pA (ih_r02_expr _ _ k18) (pA k16 pT))))))))))))))))) (by kernel_rfl)
              · obtain rfl := retE h
                exact fin (ok X) 1 [.i (a0.Kids.length : Int), .b true, .b true, .b true, .e (f_r02_Expr v6), .b true, .b true, .c (r_r02_expr v7), .b true, .b false, .b false, .b false, .b false, .b false, .b false] (pA (lm e_r02_Expr a0.Kids) (pA k13 (pA k13 (pA k13 (pA (ixr e_r02_Expr_eq k14) (pA k13 (pA k13 (pA (ih_r02_expr _ _ k15) (pA k13 (pA k16 (pA k16 (pA k16 (pA k16 (pA k16 (pA k16 pT))))))))))))))) (by kernel_rfl)
            · obtain rfl := retE h
              exact fin (ok X) 1 [.i (a0.Kids.length : Int), .b false, .b false, .b false, .b false, .b false, .b false, .b false, .b false, .b false, .b false, .b false, .b false] (pA (lm e_r02_Expr a0.Kids) (pA k13 (pA k13 (pA k13 (pA k13 (pA k13 (pA k13 (pA ff (pA ff (pA ff (pA ff (pA ff (pA ff pT))))))))))))) (by kernel_rfl)
          · obtain rfl := retE h
            exact fin (ok X) 1 [] pT (by kernel_rfl)
        · obtain rfl := retE h
          exact fin (ok X) 6 [.b false] (pA k12 pT) (by kernel_rfl)

theorem all_r02_expr : ∀ n : Nat, (∀ (a0 : r02_Expr) (r : Bool), r02_exprN n a0 = some r → Cv Tryz.prog (GX X) 54 [.agg (bs (f_r02_Expr a0))] (r_r02_expr r))
  | 0 => (fun _ _ h => by rw [r02_exprN] at h; cases h)
  | n + 1 => by
    have ih := all_r02_expr n
    exact s_r02_expr ih

theorem m_r02_expr {a0 : r02_Expr} {r : Bool} (h : r02_expr a0 = some r) : Cv Tryz.prog (GX X) 54 [.agg (bs (f_r02_Expr a0))] (r_r02_expr r) := by
  obtain ⟨n, hn⟩ := unfE h
  exact (all_r02_expr n) _ _ hn

theorem m_r02_cond {a0 : r02_Cond} {r : Bool} (h : r02_cond a0 = some r) : Cv Tryz.prog (GX X) 55 [.agg (bs (e_r02_Cond a0))] (r_r02_cond r) := by
  refine Cs.toV (?_ : Cs Tryz.prog (GX X) 55 [.agg (bs (e_r02_Cond a0))] [] (r_r02_cond r) (o_r02_cond r)) (by kernel_rfl)
  refine fnT (cx := cx X) Tryz.f55 Tryz.call55 Tryz.func55 (by kernel_rfl) ?_
  unfold r02_cond at h
  rcases iteE h with ⟨k1, h⟩ | ⟨k1, h⟩
  · rcases iteE h with ⟨k2, h⟩ | ⟨k2, h⟩
    · obtain ⟨v1, k3, h⟩ := bindE h
      rcases iteE h with ⟨k4, h⟩ | ⟨k4, h⟩
      · obtain ⟨v2, k5, h⟩ := bindE h
        obtain rfl := retE h
        exact fin (ok X) 5 [.b true, .b true, .b true, .b true, .b true, .b true, .b true, .c (r_r02_expr v1), .b true, .b true, .b true, .b true, .c (r_r02_expr v2), .b true] (pA k1 (pA k1 (pA k1 (pA k1 (pA k2 (pA k2 (pA k2 (pA (m_r02_expr (X := X) k3) (pA k2 (pA k4 (pA k4 (pA k4 (pA (m_r02_expr (X := X) k5) (pA k4 pT)))))))))))))) (by kernel_rfl)
      · obtain rfl := retE h
        exact fin (ok X) 5 [.b true, .b true, .b true, .b true, .b true, .b true, .b true, .c (r_r02_expr v1), .b true, .b false, .b false, .b false, .b false] (pA k1 (pA k1 (pA k1 (pA k1 (pA k2 (pA k2 (pA k2 (pA (m_r02_expr (X := X) k3) (pA k2 (pA k4 (pA k4 (pA k4 (pA k4 pT))))))))))))) (by kernel_rfl)
    · obtain rfl := retE h
      exact fin (ok X) 5 [.b true, .b true, .b true, .b true, .b false, .b false, .b false, .b false, .b false, .b false, .b false, .b false] (pA k1 (pA k1 (pA k1 (pA k1 (pA k2 (pA k2 (pA k2 (pA k2 (pA ff (pA ff (pA ff (pA ff pT)))))))))))) (by kernel_rfl)
  · obtain rfl := retE h
    exact fin (ok X) 5 [.b false, .b false, .b false, .b false, .b false, .b false, .b false, .b false, .b false, .b false, .b false, .b false] (pA k1 (pA k1 (pA k1 (pA k1 (pA ff (pA ff (pA ff (pA ff (pA ff (pA ff (pA ff (pA ff pT)))))))))))) (by kernel_rfl)

theorem s_r02_stmts {n : Nat} (ih_r02_stmts : ∀ (a0 : (List r02_Stmt)) (r : Bool), r02_stmtsN n a0 = some r → Cv Tryz.prog (GX X) 40 [xL (List.map e_r02_Stmt a0)] (r_r02_stmts r)) (a0 : (List r02_Stmt)) (r : Bool) (h : r02_stmtsN (n + 1) a0 = some r) : Cv Tryz.prog (GX X) 40 [xL (List.map e_r02_Stmt a0)] (r_r02_stmts r) := by
  refine Cs.toV (?_ : Cs Tryz.prog (GX X) 40 [xL (List.map e_r02_Stmt a0)] [] (r_r02_stmts r) (o_r02_stmts r)) (by kernel_rfl)
  refine fnT (cx := cx X) Tryz.f40 Tryz.call40 Tryz.func40 (by kernel_rfl) ?_
  rw [r02_stmtsN] at h
  refine adv (ok X) 5 [] pT (by kernel_rfl) ?_
  refine lp (ok X) (r02_stmts_l1 (r02_stmtsN n) a0) (fun (x1 : Int) => ⟨127, 0, [(0, [xL (List.map e_r02_Stmt a0)]), (3, [xI x1])], []⟩) (fun (j1 : Unit) => ⟨127, 0, [], []⟩) R_r02_stmts 0 (fun _ => ⟨_, _, _, _, rfl⟩) h (by kernel_rfl) (fun x1 o h => ?_) (fun r' h => ?_) (fun j1 h => ?_)
  · unfold r02_stmts_l1 at h
    refine adv (ok X) 3 [.i (a0.length : Int)] (pA (lm e_r02_Stmt a0) pT) (by kernel_rfl) ?_
    rcases iteE h with ⟨k1, h⟩ | ⟨k1, h⟩
    · refine adv (ok X) 3 [.b true] (pA k1 pT) (by kernel_rfl) ?_
      refine jr (ok X) 1 (fun (j2 : Unit) => ⟨127, 0, [(0, [xL (List.map e_r02_Stmt a0)]), (3, [xI x1])], []⟩) R_r02_stmts (fun _ => ⟨_, _, _, _, rfl⟩) h (fun o h => ?_) (fun r' h => ?_) (fun j2 h => ?_)
      · obtain ⟨v1, k2, h⟩ := bindE h
        refine adv (ok X) 11 [.e (f_r02_Stmt v1)] (pA (ixr e_r02_Stmt_eq k2) pT) (by kernel_rfl) ?_
        rcases iteE h with ⟨k3, h⟩ | ⟨k3, h⟩
        · refine adv (ok X) 1 [.b true] (pA k3 pT) (by kernel_rfl) ?_
          obtain ⟨v2, k4, h⟩ := bindE h
          rcases iteE h with ⟨k5, h⟩ | ⟨k5, h⟩
          · obtain ⟨v3, k6, h⟩ := bindE h
            refine adv (ok X) 4 [.c (r_r02_name v2), .b true, .b true, .b true, .c (r_r02_expr v3), .b true] (pA (m_r02_name (X := X) k4) (pA k5 (pA k5 (pA k5 (pA (m_r02_expr (X := X) k6) (pA k5 pT)))))) (by kernel_rfl) ?_
            rcases iteE h with ⟨k7, h⟩ | ⟨k7, h⟩
            · obtain rfl := retE h
              exact fin (ok X) 4 [.b true] (pA k7 pT) (by kernel_rfl)
            · obtain rfl := retE h
              exact fin (ok X) 3 [.b false] (pA k7 pT) (by kernel_rfl)
          · obtain rfl := retE h
            exact fin (ok X) 8 [.c (r_r02_name v2), .b false, .b false, .b false, .b false, .b true] (pA (m_r02_name (X := X) k4) (pA k5 (pA k5 (pA k5 (pA k5 (pA (notF ff) pT)))))) (by kernel_rfl)
        · refine adv (ok X) 3 [.b false] (pA k3 pT) (by kernel_rfl) ?_
          rcases iteE h with ⟨k8, h⟩ | ⟨k8, h⟩
          · refine adv (ok X) 1 [.b true] (pA k8 pT) (by kernel_rfl) ?_
            obtain ⟨v4, k9, h⟩ := bindE h
            rcases iteE h with ⟨k10, h⟩ | ⟨k10, h⟩
            · obtain ⟨v5, k11, h⟩ := bindE h
              rcases iteE h with ⟨k12, h⟩ | ⟨k12, h⟩
              · obtain ⟨v6, k13, h⟩ := bindE h
                refine adv (ok X) 4 [.c (r_r02_cond v4), .b true, .b true, .b true, .c (r_r02_stmts v5), .b true, .b true, .b true, .b true, .c (r_r02_stmts v6), .b true] (pA (m_r02_cond (X := X) k9) (pA k10 (pA k10 (pA k10 (pA (ih_r02_stmts _ _ k11) (pA k10 (pA k12 (pA k12 (pA k12 (pA (ih_r02_stmts _ _ k13) (pA k12 pT))))))))))) (by kernel_rfl) ?_
                rcases iteE h with ⟨k14, h⟩ | ⟨k14, h⟩
                · obtain rfl := retE h
                  exact fin (ok X) 4 [.b true] (pA k14 pT) (by kernel_rfl)
                · obtain rfl := retE h
                  exact fin (ok X) 3 [.b false] (pA k14 pT) (by kernel_rfl)
              · obtain rfl := retE h
                exact fin (ok X) 8 [.c (r_r02_cond v4), .b true, .b true, .b true, .c (r_r02_stmts v5), .b true, .b false, .b false, .b false, .b false, .b true] (pA (m_r02_cond (X := X) k9) (pA k10 (pA k10 (pA k10 (pA (ih_r02_stmts _ _ k11) (pA k10 (pA k12 (pA k12 (pA k12 (pA k12 (pA (notF ff) pT))))))))))) (by kernel_rfl)
            · obtain rfl := retE h
              exact fin (ok X) 8 [.c (r_r02_cond v4), .b false, .b false, .b false, .b false, .b false, .b false, .b false, .b false, .b true] (pA (m_r02_cond (X := X) k9) (pA k10 (pA k10 (pA k10 (pA k10 (pA ff (pA ff (pA ff (pA ff (pA (notF ff) pT)))))))))) (by kernel_rfl)
          · refine adv (ok X) 3 [.b false] (pA k8 pT) (by kernel_rfl) ?_
            rcases iteE h with ⟨k15, h⟩ | ⟨k15, h⟩
            · refine adv (ok X) 1 [.b true] (pA k15 pT) (by kernel_rfl) ?_
              obtain ⟨v7, k16, h⟩ := bindE h
              rcases iteE h with ⟨k17, h⟩ | ⟨k17, h⟩
              · obtain ⟨v8, k18, h⟩ := bindE h
                refine adv (ok X) 4 [.c (r_r02_cond v7), .b true, .b true, .b true, .c (r_r02_stmts v8), .b true] (pA (m_r02_cond (X := X) k16) (pA k17 (pA k17 (pA k17 (pA (ih_r02_stmts _ _ k18) (pA k17 pT)))))) (by kernel_rfl) ?_
                rcases iteE h with ⟨k19, h⟩ | ⟨k19, h⟩
                · obtain rfl := retE h
                  exact fin (ok X) 4 [.b true] (pA k19 pT) (by kernel_rfl)
                · obtain rfl := retE h
                  exact fin (ok X) 3 [.b false] (pA k19 pT) (by kernel_rfl)
              · obtain rfl := retE h
                exact fin (ok X) 8 [.c (r_r02_cond v7), .b false, .b false, .b false, .b false, .b true] (pA (m_r02_cond (X := X) k16) (pA k17 (pA k17 (pA k17 (pA k17 (pA (notF ff) pT)))))) (by kernel_rfl)
            · refine adv (ok X) 3 [.b false] (pA k15 pT) (by kernel_rfl) ?_
              rcases iteE h with ⟨k20, h⟩ | ⟨k20, h⟩
              · refine adv (ok X) 1 [.b true] (pA k20 pT) (by kernel_rfl) ?_
                obtain ⟨v9, k21, h⟩ := bindE h
                rcases iteE h with ⟨k22, h⟩ | ⟨k22, h⟩
                · obtain ⟨v10, k23, h⟩ := bindE h
                  rcases iteE h with ⟨k24, h⟩ | ⟨k24, h⟩
                  · obtain ⟨v11, k25, h⟩ := bindE h
                    refine adv (ok X) 4 [.c (r_r02_name v9), .b true, .b true, .b true, .c (r_r02_name v10), .b true, .b true, .b true, .b true, .c (r_r02_expr v11), .b true] (pA (m_r02_name (X := X) k21) (pA k22 (pA k22 (pA k22 (pA (m_r02_name (X := X) k23) (pA k22 (pA k24 (pA k24 (pA k24 (pA (m_r02_expr (X := X) k25) (pA k24 pT))))))))))) (by kernel_rfl) ?_
                    rcases iteE h with ⟨k26, h⟩ | ⟨k26, h⟩
                    · obtain rfl := retE h
                      exact fin (ok X) 4 [.b true] (pA k26 pT) (by kernel_rfl)
                    · obtain rfl := retE h
                      exact fin (ok X) 3 [.b false] (pA k26 pT) (by kernel_rfl)
                  · obtain rfl := retE h
                    exact fin (ok X) 8 [.c (r_r02_name v9), .b true, .b true, .b true, .c (r_r02_name v10), .b true, .b false, .b false, .b false, .b false, .b true] (pA (m_r02_name (X := X) k21) (pA k22 (pA k22 (pA k22 (pA (m_r02_name (X := X) k23) (pA k22 (pA k24 (pA k24 (pA k24 (pA k24 (pA (notF ff) pT))))))))))) (by kernel_rfl)
                · obtain rfl := retE h
                  exact fin (ok X) 8 [.c (r_r02_name v9), .b false, .b false, .b false, .b false, .b false, .b false, .b false, .b false, .b true] (pA (m_r02_name (X := X) k21) (pA k22 (pA k22 (pA k22 (pA k22 (pA ff (pA ff (pA ff (pA ff (pA (notF ff) pT)))))))))) (by kernel_rfl)
              · refine adv (ok X) 3 [.b false] (pA k20 pT) (by kernel_rfl) ?_
                rcases iteE h with ⟨k27, h⟩ | ⟨k27, h⟩
                · refine adv (ok X) 2 [.b true] (pA k27 pT) (by kernel_rfl) ?_
                  refine jn (ok X) 1 (fun (j3 : Bool) => ⟨127, 0, [(0, [xL (List.map e_r02_Stmt a0)]), (3, [xI x1]), (4, [xP 0 0]), (5, [xB j3])], [oB 30 (bs (f_r02_Stmt v1))]⟩) h (fun j3 h => ?_) (fun j3 h => ?_)
                  · obtain ⟨v12, k28, h⟩ := bindE h
                    rcases iteE h with ⟨k29, h⟩ | ⟨k29, h⟩
                    · obtain rfl := retE h
                      exact fin (ok X) 1 [.c (r_r02_name v12), .b true, .b true, .b true, .i (v1.Arms.length : Int), .b true, .b true] (pA (m_r02_name (X := X) k28) (pA k29 (pA k29 (pA k29 (pA (lm e_r02_Arm v1.Arms) (pA k29 (pA k29 pT))))))) (by kernel_rfl)
                    · obtain rfl := retE h
                      exact fin (ok X) 1 [.c (r_r02_name v12), .b false, .b false, .b false, .b false, .b false] (pA (m_r02_name (X := X) k28) (pA k29 (pA k29 (pA k29 (pA k29 (pA k29 pT)))))) (by kernel_rfl)
                  · refine adv (ok X) 2 [] pT (by kernel_rfl) ?_
                    refine lp (ok X) (r02_stmts_l4 (r02_stmtsN n) v1) (fun (x4 : (Bool × Int)) => ⟨127, 0, [(0, [xL (List.map e_r02_Stmt a0)]), (3, [xI x1]), (4, [xP 0 0]), (5, [xB x4.1]), (6, [xI x4.2])], [oB 30 (bs (f_r02_Stmt v1))]⟩) (fun (j4 : Bool) => ⟨127, 0, [(0, [xL (List.map e_r02_Stmt a0)]), (3, [xI x1]), (5, [xB j4])], []⟩) R_r02_stmts (j3, 0) (fun _ => ⟨_, _, _, _, rfl⟩) h (by kernel_rfl) (fun x4 o h => ?_) (fun r' h => ?_) (fun j4 h => ?_)
                    · unfold r02_stmts_l4 at h
                      refine adv (ok X) 3 [.i (v1.Arms.length : Int)] (pA (lm e_r02_Arm v1.Arms) pT) (by kernel_rfl) ?_
                      rcases iteE h with ⟨k30, h⟩ | ⟨k30, h⟩
                      · refine adv (ok X) 3 [.b true] (pA k30 pT) (by kernel_rfl) ?_
                        refine jn (ok X) 1 (fun (j5 : Bool) => ⟨127, 0, [(0, [xL (List.map e_r02_Stmt a0)]), (3, [xI x1]), (4, [xP 0 0]), (5, [xB j5]), (6, [xI x4.2])], [oB 30 (bs (f_r02_Stmt v1))]⟩) h (fun j5 h => ?_) (fun j5 h => ?_)
                        · rcases iteE h with ⟨k31, h⟩ | ⟨k31, h⟩
                          · obtain ⟨v13, k32, h⟩ := bindE h
                            obtain ⟨v14, k33, h⟩ := bindE h
                            rcases iteE h with ⟨k34, h⟩ | ⟨k34, h⟩
                            · obtain ⟨v15, k35, h⟩ := bindE h
                              obtain ⟨v16, k36, h⟩ := bindE h
                              rcases iteE h with ⟨k37, h⟩ | ⟨k37, h⟩
                              · obtain ⟨v17, k38, h⟩ := bindE h
                                obtain ⟨v18, k39, h⟩ := bindE h
                                obtain rfl := retE h
                                exact fin (ok X) 3 [.b true, .b true, .b true, .b true, .e (f_r02_Arm v13), .b true, .b true, .b true, .c (r_r02_name v14), .b true, .b true, .b true, .b true, .b true, .e (f_r02_Arm v15), .b true, .b true, .b true, .c (r_r02_name v16), .b true, .b true, .b true, .b true, .b true, .e (f_r02_Arm v17), .b true, .b true, .b true, .c (r_r02_stmts v18), .b true] (pA k31 (pA k31 (pA k31 (pA k31 (pA (ixr e_r02_Arm_eq k32) (pA k31 (pA k31 (pA k31 (pA (m_r02_name (X := X) k33) (pA k31 (pA k34 (pA k34 (pA k34 (pA k34 (pA (ixr e_r02_Arm_eq k35) (pA k34 (pA k34 (pA k34 (pA (m_r02_name (X := X) k36) (pA k34 (pA k37 (pA k37 (pA k37 (pA k37 (pA (ixr e_r02_Arm_eq k38) (pA k37 (pA k37 (pA k37 (pA (ih_r02_stmts _ _ k39) (pA k37 pT)))))))))))))))))))))))))))))) (by kernel_rfl)
                              · obtain rfl := retE h
                                exact fin (ok X) 3 [.b true, .b true, .b true, .b true, .e (f_r02_Arm v13), .b true, .b true, .b true, .c (r_r02_name v14), .b true, .b true, .b true, .b true, .b true, .e (f_r02_Arm v15), .b true, .b true, .b true, .c (r_r02_name v16), .b true, .b false, .b false, .b false, .b false, .b false, .b false, .b false, .b false] (pA k31 (pA k31 (pA k31 (pA k31 (pA (ixr e_r02_Arm_eq k32) (pA k31 (pA k31 (pA k31 (pA (m_r02_name (X := X) k33) (pA k31 (pA k34 (pA k34 (pA k34 (pA k34 (pA (ixr e_r02_Arm_eq k35) (pA k34 (pA k34 (pA k34 (pA (m_r02_name (X := X) k36) (pA k34 (pA k37 (pA k37 (pA k37 (pA k37 (pA k37 (pA k37 (pA k37 (pA k37 pT)))))))))))))))))))))))))))) (by kernel_rfl)
                            · obtain rfl := retE h
                              exact fin (ok X) 3 [.b true, .b true, .b true, .b true, .e (f_r02_Arm v13), .b true, .b true, .b true, .c (r_r02_name v14), .b true, .b false, .b false, .b false, .b false, .b false, .b false, .b false, .b false, .b false, .b false, .b false, .b false, .b false, .b false, .b false, .b false] (pA k31 (pA k31 (pA k31 (pA k31 (pA (ixr e_r02_Arm_eq k32) (pA k31 (pA k31 (pA k31 (pA (m_r02_name (X := X) k33) (pA k31 (pA k34 (pA k34 (pA k34 (pA k34 (pA k34 (pA k34 (pA k34 (pA k34 (pA ff (pA ff (pA ff (pA ff (pA ff (pA ff (pA ff (pA ff pT)))))))))))))))))))))))))) (by kernel_rfl)
                          · obtain rfl := retE h
                            exact fin (ok X) 3 [.b false, .b false, .b false, .b false, .b false, .b false, .b false, .b false, .b false, .b false, .b false, .b false, .b false, .b false, .b false, .b false, .b false, .b false, .b false, .b false, .b false, .b false, .b false, .b false] (pA k31 (pA k31 (pA k31 (pA k31 (pA k31 (pA k31 (pA k31 (pA k31 (pA ff (pA ff (pA ff (pA ff (pA ff (pA ff (pA ff (pA ff (pA ff (pA ff (pA ff (pA ff (pA ff (pA ff (pA ff (pA ff pT)))))))))))))))))))))))) (by kernel_rfl)
                        · obtain rfl := retE h
                          exact fin (ok X) 1 [] pT (by kernel_rfl)
                      · obtain rfl := retE h
                        exact fin (ok X) 2 [.b false] (pA k30 pT) (by kernel_rfl)
                    · cases h
                    · rcases iteE h with ⟨k40, h⟩ | ⟨k40, h⟩
                      · obtain rfl := retE h
                        exact fin (ok X) 7 [.b true] (pA k40 pT) (by kernel_rfl)
                      · obtain rfl := retE h
                        exact fin (ok X) 6 [.b false] (pA k40 pT) (by kernel_rfl)
                · refine adv (ok X) 3 [.b false] (pA k27 pT) (by kernel_rfl) ?_
                  rcases iteE h with ⟨k41, h⟩ | ⟨k41, h⟩
                  · obtain ⟨v19, k42, h⟩ := bindE h
                    refine adv (ok X) 5 [.b true, .c (r_r02_cond v19)] (pA k41 (pA (m_r02_cond (X := X) k42) pT)) (by kernel_rfl) ?_
                    rcases iteE h with ⟨k43, h⟩ | ⟨k43, h⟩
                    · obtain rfl := retE h
                      exact fin (ok X) 4 [.b true] (pA k43 pT) (by kernel_rfl)
                    · obtain rfl := retE h
                      exact fin (ok X) 3 [.b false] (pA k43 pT) (by kernel_rfl)
                  · refine adv (ok X) 3 [.b false] (pA k41 pT) (by kernel_rfl) ?_
                    rcases iteE h with ⟨k44, h⟩ | ⟨k44, h⟩
                    · obtain ⟨v20, k45, h⟩ := bindE h
                      refine adv (ok X) 5 [.b true, .c (r_r02_name v20)] (pA k44 (pA (m_r02_name (X := X) k45) pT)) (by kernel_rfl) ?_
                      rcases iteE h with ⟨k46, h⟩ | ⟨k46, h⟩
                      · obtain rfl := retE h
                        exact fin (ok X) 4 [.b true] (pA k46 pT) (by kernel_rfl)
                      · obtain rfl := retE h
                        exact fin (ok X) 3 [.b false] (pA k46 pT) (by kernel_rfl)
                    · obtain rfl := retE h
                      exact fin (ok X) 9 [.b false, .b true] (pA k44 (pA (notF ff) pT)) (by kernel_rfl)
      · obtain rfl := retE h
        kernel_rfl
      · obtain rfl := retE h
        exact fin (ok X) 1 [] pT (by kernel_rfl)
    · obtain rfl := retE h
      exact fin (ok X) 2 [.b false] (pA k1 pT) (by kernel_rfl)
  · obtain rfl := retE h
    kernel_rfl
  · obtain rfl := retE h
    exact fin (ok X) 3 [] pT (by kernel_rfl)

theorem all_r02_stmts : ∀ n : Nat, (∀ (a0 : (List r02_Stmt)) (r : Bool), r02_stmtsN n a0 = some r → Cv Tryz.prog (GX X) 40 [xL (List.map e_r02_Stmt a0)] (r_r02_stmts r))
  | 0 => (fun _ _ h => by rw [r02_stmtsN] at h; cases h)
  | n + 1 => by
    have ih := all_r02_stmts n
    exact s_r02_stmts ih

theorem m_r02_stmts {a0 : (List r02_Stmt)} {r : Bool} (h : r02_stmts a0 = some r) : Cv Tryz.prog (GX X) 40 [xL (List.map e_r02_Stmt a0)] (r_r02_stmts r) := by
  obtain ⟨n, hn⟩ := unfE h
  exact (all_r02_stmts n) _ _ hn

theorem m_r02_Right {a0 : r02_System} {r : Bool} (h : r02_Right a0 = some r) : Cv Tryz.prog (GX X) 15 [.agg (bs (e_r02_System a0))] (r_r02_Right r) := by
  refine Cs.toV (?_ : Cs Tryz.prog (GX X) 15 [.agg (bs (e_r02_System a0))] [] (r_r02_Right r) (o_r02_Right r)) (by kernel_rfl)
  refine fnT (cx := cx X) Tryz.f15 Tryz.call15 Tryz.func15 (by kernel_rfl) ?_
  unfold r02_Right at h
  refine adv (ok X) 5 [] pT (by kernel_rfl) ?_
  refine lp (ok X) (r02_Right_l1 a0) (fun (x1 : Int) => ⟨163, 0, [(1, [xP 0 0]), (3, [xI x1])], [oB 38 (bs (e_r02_System a0))]⟩) (fun (j1 : Unit) => ⟨163, 0, [(1, [xP 0 0])], [oB 38 (bs (e_r02_System a0))]⟩) R_r02_Right 0 (fun _ => ⟨_, _, _, _, rfl⟩) h (by kernel_rfl) (fun x1 o h => ?_) (fun r' h => ?_) (fun j1 h => ?_)
  · unfold r02_Right_l1 at h
    refine adv (ok X) 3 [.i (a0.Chans.length : Int)] (pA (lm e_r02_Chan a0.Chans) pT) (by kernel_rfl) ?_
    rcases iteE h with ⟨k1, h⟩ | ⟨k1, h⟩
    · obtain ⟨v1, k2, h⟩ := bindE h
      refine adv (ok X) 8 [.b true, .e (e_r02_Chan v1)] (pA k1 (pA (ixm e_r02_Chan k2) pT)) (by kernel_rfl) ?_
      refine jn (ok X) 1 (fun (j2 : Bool) => ⟨163, 0, [(1, [xP 0 0]), (3, [xI x1]), (4, [xP 1 0]), (61, [xB j2])], [oB 38 (bs (e_r02_System a0)), oB 69 (bs (e_r02_Chan v1))]⟩) h (fun j2 h => ?_) (fun j2 h => ?_)
      · obtain ⟨v2, k3, h⟩ := bindE h
        rcases iteE h with ⟨k4, h⟩ | ⟨k4, h⟩
        · obtain rfl := retE h
          exact fin (ok X) 1 [.c (r_r02_name v2), .b true, .b true, .b true, .b true, .b true, .b true, .b true, .b true, .b true, .b true, .b true, .b true, .b true, .b true, .b true, .b true, .b true, .b true, .b true, .b true, .b true, .b true, .b true, .b true, .b true, .b true, .b true, .b true] (pA (m_r02_name (X := X) k3) (pA k4 (pA k4 (pA k4 (pA k4 (pA k4 (pA tt (pA tt (pA tt (pA tt (pA tt (pA tt (pA tt (pA tt (pA tt (pA tt (pA tt (pA tt (pA tt (pA tt (pA tt (pA tt (pA tt (pA tt (pA tt (pA tt (pA tt (pA tt (pA tt pT))))))))))))))))))))))))))))) (by kernel_rfl)
        · obtain ⟨v3, k5, h⟩ := bindE h
          rcases iteE h with ⟨k6, h⟩ | ⟨k6, h⟩
          · obtain rfl := retE h
            exact fin (ok X) 1 [.c (r_r02_name v2), .b false, .b false, .b false, .c (r_r02_name v3), .b false, .b false, .b true, .b true, .b true, .b true, .b true, .b true, .b true, .b true, .b true, .b true, .b true, .b true, .b true, .b true, .b true, .b true, .b true, .b true, .b true, .b true, .b true, .b true, .b true] (pA (m_r02_name (X := X) k3) (pA k4 (pA k4 (pA k4 (pA (m_r02_name (X := X) k5) (pA k4 (pA k4 (pA k6 (pA k6 (pA k6 (pA k6 (pA k6 (pA tt (pA tt (pA tt (pA tt (pA tt (pA tt (pA tt (pA tt (pA tt (pA tt (pA tt (pA tt (pA tt (pA tt (pA tt (pA tt (pA tt (pA tt pT)))))))))))))))))))))))))))))) (by kernel_rfl)
          · obtain ⟨v4, k7, h⟩ := bindE h
            rcases iteE h with ⟨k8, h⟩ | ⟨k8, h⟩
            · obtain rfl := retE h
              exact fin (ok X) 1 [.c (r_r02_name v2), .b false, .b false, .b false, .c (r_r02_name v3), .b false, .b false, .b false, .b false, .b false, .c (r_r02_name v4), .b false, .b false, .b true, .b true, .b true, .b true, .b true, .b true, .b true, .b true, .b true, .b true, .b true, .b true, .b true, .b true, .b true, .b true, .b true, .b true] (pA (m_r02_name (X := X) k3) (pA k4 (pA k4 (pA k4 (pA (m_r02_name (X := X) k5) (pA k4 (pA k4 (pA k6 (pA k6 (pA k6 (pA (m_r02_name (X := X) k7) (pA k6 (pA k6 (pA k8 (pA k8 (pA k8 (pA k8 (pA tt (pA tt (pA tt (pA tt (pA tt (pA tt (pA tt (pA tt (pA tt (pA tt (pA tt (pA tt (pA tt (pA tt pT))))))))))))))))))))))))))))))) (by kernel_rfl)
            · rcases iteE h with ⟨k9, h⟩ | ⟨k9, h⟩
              · obtain rfl := retE h
                exact fin (ok X) 1 [.c (r_r02_name v2), .b false, .b false, .b false, .c (r_r02_name v3), .b false, .b false, .b false, .b false, .b false, .c (r_r02_name v4), .b false, .b false, .b false, .b false, .b false, .b false, .b true, .b true, .b true, .b true, .b true, .b true, .b true, .b true, .b true, .b true, .b true, .b true, .b true, .b true] (pA (m_r02_name (X := X) k3) (pA k4 (pA k4 (pA k4 (pA (m_r02_name (X := X) k5) (pA k4 (pA k4 (pA k6 (pA k6 (pA k6 (pA (m_r02_name (X := X) k7) (pA k6 (pA k6 (pA k8 (pA k8 (pA k8 (pA k8 (pA k9 (pA k9 (pA k9 (pA k9 (pA tt (pA tt (pA tt (pA tt (pA tt (pA tt (pA tt (pA tt (pA tt (pA tt pT))))))))))))))))))))))))))))))) (by kernel_rfl)
              · rcases iteE h with ⟨k10, h⟩ | ⟨k10, h⟩
                · obtain rfl := retE h
                  exact fin (ok X) 1 [.c (r_r02_name v2), .b false, .b false, .b false, .c (r_r02_name v3), .b false, .b false, .b false, .b false, .b false, .c (r_r02_name v4), .b false, .b false, .b false, .b false, .b false, .b false, .b false, .b false, .b false, .b false, .b true, .b true, .b true, .b true, .b true, .b true, .b true, .b true, .b true, .b true] (pA (m_r02_name (X := X) k3) (pA k4 (pA k4 (pA k4 (pA (m_r02_name (X := X) k5) (pA k4 (pA k4 (pA k6 (pA k6 (pA k6 (pA (m_r02_name (X := X) k7) (pA k6 (pA k6 (pA k8 (pA k8 (pA k8 (pA k8 (pA k9 (pA k9 (pA k9 (pA k9 (pA k10 (pA k10 (pA k10 (pA k10 (pA k10 (pA tt (pA tt (pA tt (pA tt (pA tt pT))))))))))))))))))))))))))))))) (by kernel_rfl)
                · obtain ⟨v5, k11, h⟩ := bindE h
                  rcases iteE h with ⟨k12, h⟩ | ⟨k12, h⟩
                  · obtain rfl := retE h
                    exact fin (ok X) 1 [.c (r_r02_name v2), .b false, .b false, .b false, .c (r_r02_name v3), .b false, .b false, .b false, .b false, .b false, .c (r_r02_name v4), .b false, .b false, .b false, .b false, .b false, .b false, .b false, .b false, .b false, .b false, .b false, .b false, .b false, .c (r_r02_number v5), .b false, .b false, .b true, .b true, .b true, .b true, .b true] (pA (m_r02_name (X := X) k3) (pA k4 (pA k4 (pA k4 (pA (m_r02_name (X := X) k5) (pA k4 (pA k4 (pA k6 (pA k6 (pA k6 (pA (m_r02_name (X := X) k7) (pA k6 (pA k6 (pA k8 (pA k8 (pA k8 (pA k8 (pA k9 (pA k9 (pA k9 (pA k9 (pA k10 (pA k10 (pA k10 (pA (m_r02_number (X := X) k11) (pA k10 (pA k10 (pA k12 (pA k12 (pA k12 (pA k12 (pA k12 pT)))))))))))))))))))))))))))))))) (by kernel_rfl)
                  · obtain rfl := retE h
                    exact fin (ok X) 1 [.c (r_r02_name v2), .b false, .b false, .b false, .c (r_r02_name v3), .b false, .b false, .b false, .b false, .b false, .c (r_r02_name v4), .b false, .b false, .b false, .b false, .b false, .b false, .b false, .b false, .b false, .b false, .b false, .b false, .b false, .c (r_r02_number v5), .b false, .b false, .b false, .b false, .b false, .i (v1.Tags.length : Int), .b false, .b false] (pA (m_r02_name (X := X) k3) (pA k4 (pA k4 (pA k4 (pA (m_r02_name (X := X) k5) (pA k4 (pA k4 (pA k6 (pA k6 (pA k6 (pA (m_r02_name (X := X) k7) (pA k6 (pA k6 (pA k8 (pA k8 (pA k8 (pA k8 (pA k9 (pA k9 (pA k9 (pA k9 (pA k10 (pA k10 (pA k10 (pA (m_r02_number (X := X) k11) (pA k10 (pA k10 (pA k12 (pA k12 (pA k12 (pA (lm e_str v1.Tags) (pA k12 (pA k12 pT))))))))))))))))))))))))))))))))) (by kernel_rfl)
      · rcases iteE h with ⟨k13, h⟩ | ⟨k13, h⟩
        · obtain rfl := retE h
          exact fin (ok X) 4 [.b true] (pA k13 pT) (by kernel_rfl)
        · refine adv (ok X) 4 [.b false] (pA k13 pT) (by kernel_rfl) ?_
          refine lp (ok X) (r02_Right_l3 v1) (fun (x3 : Int) => ⟨163, 0, [(1, [xP 0 0]), (3, [xI x1]), (4, [xP 1 0]), (5, [xI x3])], [oB 38 (bs (e_r02_System a0)), oB 69 (bs (e_r02_Chan v1))]⟩) (fun (j3 : Unit) => ⟨163, 0, [(1, [xP 0 0]), (3, [xI x1])], [oB 38 (bs (e_r02_System a0))]⟩) R_r02_Right 0 (fun _ => ⟨_, _, _, _, rfl⟩) h (by kernel_rfl) (fun x3 o h => ?_) (fun r' h => ?_) (fun j3 h => ?_)
          · unfold r02_Right_l3 at h
            refine adv (ok X) 3 [.i (v1.Tags.length : Int)] (pA (lm e_str v1.Tags) pT) (by kernel_rfl) ?_
            rcases iteE h with ⟨k14, h⟩ | ⟨k14, h⟩
            · obtain ⟨v6, k15, h⟩ := bindE h
              obtain ⟨v7, k16, h⟩ := bindE h
              refine adv (ok X) 6 [.b true, .e [.str v6], .c (r_r02_name v7)] (pA k14 (pA (ixm e_str k15) (pA (m_r02_name (X := X) k16) pT))) (by kernel_rfl) ?_
              rcases iteE h with ⟨k17, h⟩ | ⟨k17, h⟩
              · obtain rfl := retE h
                exact fin (ok X) 4 [.b true] (pA k17 pT) (by kernel_rfl)
              · obtain rfl := retE h
                exact fin (ok X) 4 [.b false] (pA k17 pT) (by kernel_rfl)
            · obtain rfl := retE h
              exact fin (ok X) 2 [.b false] (pA k14 pT) (by kernel_rfl)
          · obtain rfl := retE h
            kernel_rfl
          · obtain rfl := retE h
            exact fin (ok X) 2 [] pT (by kernel_rfl)
    · obtain rfl := retE h
      exact fin (ok X) 2 [.b false] (pA k1 pT) (by kernel_rfl)
  · obtain rfl := retE h
    kernel_rfl
  · refine adv (ok X) 3 [] pT (by kernel_rfl) ?_
    refine lp (ok X) (r02_Right_l4 a0) (fun (x4 : Int) => ⟨163, 0, [(1, [xP 0 0]), (6, [xI x4])], [oB 38 (bs (e_r02_System a0))]⟩) (fun (j4 : Unit) => ⟨163, 0, [(1, [xP 0 0])], [oB 38 (bs (e_r02_System a0))]⟩) R_r02_Right 0 (fun _ => ⟨_, _, _, _, rfl⟩) h (by kernel_rfl) (fun x4 o h => ?_) (fun r' h => ?_) (fun j4 h => ?_)
    · unfold r02_Right_l4 at h
      refine adv (ok X) 3 [.i (a0.Rules.length : Int)] (pA (lm e_r02_Rule a0.Rules) pT) (by kernel_rfl) ?_
      rcases iteE h with ⟨k18, h⟩ | ⟨k18, h⟩
      · obtain ⟨v8, k19, h⟩ := bindE h
        obtain ⟨v9, k20, h⟩ := bindE h
        refine adv (ok X) 7 [.b true, .e (e_r02_Rule v8), .c (r_r02_name v9)] (pA k18 (pA (ixm e_r02_Rule k19) (pA (m_r02_name (X := X) k20) pT))) (by kernel_rfl) ?_
        rcases iteE h with ⟨k21, h⟩ | ⟨k21, h⟩
        · obtain rfl := retE h
          exact fin (ok X) 4 [.b true] (pA k21 pT) (by kernel_rfl)
        · refine adv (ok X) 4 [.b false] (pA k21 pT) (by kernel_rfl) ?_
          refine lp (ok X) (r02_Right_l5 a0 x4) (fun (x5 : Int) => ⟨163, 0, [(1, [xP 0 0]), (6, [xI x4]), (7, [xI x5])], [oB 38 (bs (e_r02_System a0))]⟩) (fun (j5 : Unit) => ⟨163, 0, [(1, [xP 0 0]), (6, [xI x4])], [oB 38 (bs (e_r02_System a0))]⟩) R_r02_Right 0 (fun _ => ⟨_, _, _, _, rfl⟩) h (by kernel_rfl) (fun x5 o h => ?_) (fun r' h => ?_) (fun j5 h => ?_)
          · unfold r02_Right_l5 at h
            obtain ⟨v10, k22, h⟩ := bindE h
            refine adv (ok X) 3 [.e (e_r02_Rule v10), .i (v10.Moves.length : Int)] (pA (ixm e_r02_Rule k22) (pA (lm e_r02_Move v10.Moves) pT)) (by kernel_rfl) ?_
            rcases iteE h with ⟨k23, h⟩ | ⟨k23, h⟩
            · obtain ⟨v11, k24, h⟩ := bindE h
              obtain ⟨v12, k25, h⟩ := bindE h
              refine adv (ok X) 7 [.b true, .e (e_r02_Rule v11), .e (e_r02_Move v12)] (pA k23 (pA (ixm e_r02_Rule k24) (pA (ixm e_r02_Move k25) pT))) (by kernel_rfl) ?_
              refine jn (ok X) 1 (fun (j6 : Bool) => ⟨163, 0, [(1, [xP 0 0]), (6, [xI x4]), (7, [xI x5]), (126, [xB j6])], [oB 38 (bs (e_r02_System a0))]⟩) h (fun j6 h => ?_) (fun j6 h => ?_)
              · obtain ⟨v13, k26, h⟩ := bindE h
                rcases iteE h with ⟨k27, h⟩ | ⟨k27, h⟩
                · obtain rfl := retE h
                  exact fin (ok X) 1 [.c (r_r02_number v13), .b true, .b true, .b true, .b true, .b true, .b true, .b true, .b true, .b true, .b true] (pA (m_r02_number (X := X) k26) (pA k27 (pA k27 (pA k27 (pA k27 (pA k27 (pA tt (pA tt (pA tt (pA tt (pA tt pT))))))))))) (by kernel_rfl)
                · obtain ⟨v14, k28, h⟩ := bindE h
                  rcases iteE h with ⟨k29, h⟩ | ⟨k29, h⟩
                  · obtain rfl := retE h
                    exact fin (ok X) 1 [.c (r_r02_number v13), .b false, .b false, .b false, .c (r_r02_number v14), .b false, .b false, .b true, .b true, .b true, .b true, .b true] (pA (m_r02_number (X := X) k26) (pA k27 (pA k27 (pA k27 (pA (m_r02_number (X := X) k28) (pA k27 (pA k27 (pA k29 (pA k29 (pA k29 (pA k29 (pA k29 pT)))))))))))) (by kernel_rfl)
                  · obtain ⟨v15, k30, h⟩ := bindE h
                    obtain rfl := retE h
                    exact fin (ok X) 1 [.c (r_r02_number v13), .b false, .b false, .b false, .c (r_r02_number v14), .b false, .b false, .b false, .b false, .b false, .c (r_r02_name v15), .b false, .b false] (pA (m_r02_number (X := X) k26) (pA k27 (pA k27 (pA k27 (pA (m_r02_number (X := X) k28) (pA k27 (pA k27 (pA k29 (pA k29 (pA k29 (pA (m_r02_name (X := X) k30) (pA k29 (pA k29 pT))))))))))))) (by kernel_rfl)
              · rcases iteE h with ⟨k31, h⟩ | ⟨k31, h⟩
                · obtain rfl := retE h
                  exact fin (ok X) 4 [.b true] (pA k31 pT) (by kernel_rfl)
                · obtain rfl := retE h
                  exact fin (ok X) 4 [.b false] (pA k31 pT) (by kernel_rfl)
            · obtain rfl := retE h
              exact fin (ok X) 2 [.b false] (pA k23 pT) (by kernel_rfl)
          · obtain rfl := retE h
            kernel_rfl
          · obtain rfl := retE h
            exact fin (ok X) 2 [] pT (by kernel_rfl)
      · obtain rfl := retE h
        exact fin (ok X) 2 [.b false] (pA k18 pT) (by kernel_rfl)
    · obtain rfl := retE h
      kernel_rfl
    · refine adv (ok X) 3 [] pT (by kernel_rfl) ?_
      refine lp (ok X) (r02_Right_l7 a0) (fun (x7 : Int) => ⟨163, 0, [(1, [xP 0 0]), (9, [xI x7])], [oB 38 (bs (e_r02_System a0))]⟩) (fun (j7 : Unit) => ⟨163, 0, [], []⟩) R_r02_Right 0 (fun _ => ⟨_, _, _, _, rfl⟩) h (by kernel_rfl) (fun x7 o h => ?_) (fun r' h => ?_) (fun j7 h => ?_)
      · unfold r02_Right_l7 at h
        refine adv (ok X) 3 [.i (a0.Procs.length : Int)] (pA (lm e_r02_Proc a0.Procs) pT) (by kernel_rfl) ?_
        rcases iteE h with ⟨k32, h⟩ | ⟨k32, h⟩
        · obtain ⟨v16, k33, h⟩ := bindE h
          refine adv (ok X) 8 [.b true, .e (e_r02_Proc v16)] (pA k32 (pA (ixm e_r02_Proc k33) pT)) (by kernel_rfl) ?_
          refine jn (ok X) 1 (fun (j8 : Bool) => ⟨163, 0, [(1, [xP 0 0]), (9, [xI x7]), (10, [xP 1 0]), (148, [xB j8])], [oB 38 (bs (e_r02_System a0)), oB 33 (bs (e_r02_Proc v16))]⟩) h (fun j8 h => ?_) (fun j8 h => ?_)
          · obtain ⟨v17, k34, h⟩ := bindE h
            rcases iteE h with ⟨k35, h⟩ | ⟨k35, h⟩
            · obtain rfl := retE h
              exact fin (ok X) 1 [.c (r_r02_name v17), .b true, .b true, .b true, .b true, .b true] (pA (m_r02_name (X := X) k34) (pA k35 (pA k35 (pA k35 (pA k35 (pA k35 pT)))))) (by kernel_rfl)
            · obtain ⟨v18, k36, h⟩ := bindE h
              obtain rfl := retE h
              exact fin (ok X) 1 [.c (r_r02_name v17), .b false, .b false, .b false, .c (r_r02_stmts v18), .b false, .b false] (pA (m_r02_name (X := X) k34) (pA k35 (pA k35 (pA k35 (pA (m_r02_stmts (X := X) k36) (pA k35 (pA k35 pT))))))) (by kernel_rfl)
          · rcases iteE h with ⟨k37, h⟩ | ⟨k37, h⟩
            · obtain rfl := retE h
              exact fin (ok X) 4 [.b true] (pA k37 pT) (by kernel_rfl)
            · refine adv (ok X) 4 [.b false] (pA k37 pT) (by kernel_rfl) ?_
              refine lp (ok X) (r02_Right_l9 v16) (fun (x9 : Int) => ⟨163, 0, [(1, [xP 0 0]), (9, [xI x7]), (10, [xP 1 0]), (11, [xI x9])], [oB 38 (bs (e_r02_System a0)), oB 33 (bs (e_r02_Proc v16))]⟩) (fun (j9 : Unit) => ⟨163, 0, [(1, [xP 0 0]), (9, [xI x7])], [oB 38 (bs (e_r02_System a0))]⟩) R_r02_Right 0 (fun _ => ⟨_, _, _, _, rfl⟩) h (by kernel_rfl) (fun x9 o h => ?_) (fun r' h => ?_) (fun j9 h => ?_)
              · unfold r02_Right_l9 at h
                refine adv (ok X) 3 [.i (v16.Vars.length : Int)] (pA (lm e_str v16.Vars) pT) (by kernel_rfl) ?_
                rcases iteE h with ⟨k38, h⟩ | ⟨k38, h⟩
                · obtain ⟨v19, k39, h⟩ := bindE h
                  obtain ⟨v20, k40, h⟩ := bindE h
                  refine adv (ok X) 6 [.b true, .e [.str v19], .c (r_r02_name v20)] (pA k38 (pA (ixm e_str k39) (pA (m_r02_name (X := X) k40) pT))) (by kernel_rfl) ?_
                  rcases iteE h with ⟨k41, h⟩ | ⟨k41, h⟩
                  · obtain rfl := retE h
                    exact fin (ok X) 4 [.b true] (pA k41 pT) (by kernel_rfl)
                  · obtain rfl := retE h
                    exact fin (ok X) 4 [.b false] (pA k41 pT) (by kernel_rfl)
                · obtain rfl := retE h
                  exact fin (ok X) 2 [.b false] (pA k38 pT) (by kernel_rfl)
              · obtain rfl := retE h
                kernel_rfl
              · obtain rfl := retE h
                exact fin (ok X) 2 [] pT (by kernel_rfl)
        · obtain rfl := retE h
          exact fin (ok X) 2 [.b false] (pA k32 pT) (by kernel_rfl)
      · obtain rfl := retE h
        kernel_rfl
      · obtain rfl := retE h
        exact fin (ok X) 3 [] pT (by kernel_rfl)

theorem m_r02_left {a0 : r02_Expr} {a1 : r02_Expr} {r : Bool} (h : r02_left a0 a1 = some r) : Cv Tryz.prog (GX X) 57 [.agg (bs (f_r02_Expr a0)), .agg (bs (f_r02_Expr a1))] (r_r02_left r) := by
  refine Cs.toV (?_ : Cs Tryz.prog (GX X) 57 [.agg (bs (f_r02_Expr a0)), .agg (bs (f_r02_Expr a1))] [] (r_r02_left r) (o_r02_left r)) (by kernel_rfl)
  refine fnT (cx := cx X) Tryz.f57 Tryz.call57 Tryz.func57 (by kernel_rfl) ?_
  unfold r02_left at h
  rcases iteE h with ⟨k1, h⟩ | ⟨k1, h⟩
  · rcases iteE h with ⟨k2, h⟩ | ⟨k2, h⟩
    · obtain rfl := retE h
      exact fin (ok X) 5 [.b true, .b true, .b true, .b true, .b true, .b true, .b true, .b true, .b true, .b true] (pA k1 (pA k1 (pA k1 (pA k1 (pA k2 (pA k2 (pA k2 (pA k1 (pA k2 (pA k1 pT)))))))))) (by kernel_rfl)
    · obtain rfl := retE h
      exact fin (ok X) 5 [.b true, .b true, .b true, .b true, .b false, .b false, .b false, .b true, .b false, .b true] (pA k1 (pA k1 (pA k1 (pA k1 (pA k2 (pA k2 (pA k2 (pA k1 (pA k2 (pA k1 pT)))))))))) (by kernel_rfl)
  · obtain rfl := retE h
    exact fin (ok X) 5 [.b false, .b false, .b false, .b false, .b false, .b false] (pA k1 (pA k1 (pA k1 (pA k1 (pA k1 (pA k1 pT)))))) (by kernel_rfl)

theorem m_r02_right {a0 : r02_Expr} {a1 : r02_Expr} {r : Bool} (h : r02_right a0 a1 = some r) : Cv Tryz.prog (GX X) 58 [.agg (bs (f_r02_Expr a0)), .agg (bs (f_r02_Expr a1))] (r_r02_right r) := by
  refine Cs.toV (?_ : Cs Tryz.prog (GX X) 58 [.agg (bs (f_r02_Expr a0)), .agg (bs (f_r02_Expr a1))] [] (r_r02_right r) (o_r02_right r)) (by kernel_rfl)
  refine fnT (cx := cx X) Tryz.f58 Tryz.call58 Tryz.func58 (by kernel_rfl) ?_
  unfold r02_right at h
  rcases iteE h with ⟨k1, h⟩ | ⟨k1, h⟩
  · obtain ⟨v1, k2, h⟩ := bindE h
    obtain rfl := retE h
    exact fin (ok X) 9 [.b true, .c (r_r02_two v1)] (pA k1 (pA (m_r02_two (X := X) k2) pT)) (by kernel_rfl)
  · refine adv (ok X) 8 [.b false] (pA k1 pT) (by kernel_rfl) ?_
    rcases iteE h with ⟨k3, h⟩ | ⟨k3, h⟩
    · obtain rfl := retE h
      exact fin (ok X) 2 [.b true, .b true, .b true, .b true] (pA k3 (pA k3 (pA k3 (pA k3 pT)))) (by kernel_rfl)
    · obtain rfl := retE h
      exact fin (ok X) 2 [.b false, .b false, .b false, .b false] (pA k3 (pA k3 (pA k3 (pA k3 pT)))) (by kernel_rfl)

theorem s_r02_deep {n : Nat} (ih_r02_deep : ∀ (a0 : r02_Expr) (r : Int), r02_deepN n a0 = some r → Cv Tryz.prog (GX X) 41 [.agg (bs (f_r02_Expr a0))] (r_r02_deep r)) (a0 : r02_Expr) (r : Int) (h : r02_deepN (n + 1) a0 = some r) : Cv Tryz.prog (GX X) 41 [.agg (bs (f_r02_Expr a0))] (r_r02_deep r) := by
  refine Cs.toV (?_ : Cs Tryz.prog (GX X) 41 [.agg (bs (f_r02_Expr a0))] [] (r_r02_deep r) (o_r02_deep r)) (by kernel_rfl)
  refine fnT (cx := cx X) Tryz.f41 Tryz.call41 Tryz.func41 (by kernel_rfl) ?_
  rw [r02_deepN] at h
  refine adv (ok X) 5 [] pT (by kernel_rfl) ?_
  refine jn (ok X) 1 (fun (j1 : Bool) => ⟨66, 0, [(1, [xP 0 0]), (5, [xB j1])], [oB 24 (bs (f_r02_Expr a0))]⟩) h (fun j1 h => ?_) (fun j1 h => ?_)
  · rcases iteE h with ⟨k1, h⟩ | ⟨k1, h⟩
    · obtain ⟨v1, k2, h⟩ := bindE h
      obtain ⟨v2, k3, h⟩ := bindE h
      obtain rfl := retE h
      exact fin (ok X) 1 [.b true, .b true, .b true, .e (f_r02_Expr v1), .b true, .b true, .b true, .c (r_r02_two v2), .b true] (pA k1 (pA k1 (pA k1 (pA (ixr e_r02_Expr_eq k2) (pA k1 (pA k1 (pA k1 (pA (m_r02_two (X := X) k3) (pA k1 pT))))))))) (by kernel_rfl)
    · obtain rfl := retE h
      exact fin (ok X) 1 [.b false, .b false, .b false, .b false, .b false, .b false, .b false] (pA k1 (pA k1 (pA k1 (pA k1 (pA k1 (pA k1 (pA k1 pT))))))) (by kernel_rfl)
  · rcases iteE h with ⟨k4, h⟩ | ⟨k4, h⟩
    · obtain ⟨v3, k5, h⟩ := bindE h
      obtain ⟨v4, k6, h⟩ := bindE h
      obtain rfl := retE h
      exact fin (ok X) 4 [.b true, .e (f_r02_Expr v3), .c (r_r02_deep v4)] (pA k4 (pA (ixr e_r02_Expr_eq k5) (pA (ih_r02_deep _ _ k6) pT))) (by kernel_rfl)
    · refine adv (ok X) 3 [.b false] (pA k4 pT) (by kernel_rfl) ?_
      rcases iteE h with ⟨k7, h⟩ | ⟨k7, h⟩
      · obtain ⟨v5, k8, h⟩ := bindE h
        obtain ⟨v6, k9, h⟩ := bindE h
        obtain rfl := retE h
        exact fin (ok X) 4 [.b true, .e (f_r02_Expr v5), .c (r_r02_deep v6)] (pA k7 (pA (ixr e_r02_Expr_eq k8) (pA (ih_r02_deep _ _ k9) pT))) (by kernel_rfl)
      · obtain ⟨v7, k10, h⟩ := bindE h
        refine adv (ok X) 3 [.b false, .c (r_r02_two v7)] (pA k7 (pA (m_r02_two (X := X) k10) pT)) (by kernel_rfl) ?_
        rcases iteE h with ⟨k11, h⟩ | ⟨k11, h⟩
        · obtain ⟨v8, k12, h⟩ := bindE h
          obtain ⟨v9, k13, h⟩ := bindE h
          obtain ⟨v10, k14, h⟩ := bindE h
          obtain ⟨v11, k15, h⟩ := bindE h
          obtain ⟨v12, k16, h⟩ := bindE h
          refine adv (ok X) 6 [.b true, .o [0, 1, 2, 3, 4, 5, 6, 7, 8, 9, 10, 11], .e (f_r02_Expr v8), .c (r_r02_deep v9), .e (f_r02_Expr v10), .c (r_r02_deep v11), .o [0, 1, 2, 3, 4, 5], .e (f_r02_Expr v8), .c (r_r02_left v12)] (pA k11 (pA (ixr e_r02_Expr_eq k12) (pA (ih_r02_deep _ _ k13) (pA (ixr e_r02_Expr_eq k14) (pA (ih_r02_deep _ _ k15) (pA (ixr e_r02_Expr_eq k12) (pA (m_r02_left (X := X) k16) pT))))))) (by kernel_rfl) ?_
          rcases iteE h with ⟨k17, h⟩ | ⟨k17, h⟩
          · obtain ⟨v13, k18, h⟩ := bindE h
            refine adv (ok X) 5 [.b true, .o [0, 1, 2, 3, 4, 5], .e (f_r02_Expr v10), .c (r_r02_right v13)] (pA k17 (pA (ixr e_r02_Expr_eq k14) (pA (m_r02_right (X := X) k18) pT))) (by kernel_rfl) ?_
            rcases iteE h with ⟨k19, h⟩ | ⟨k19, h⟩
            · obtain rfl := retE h
              exact fin (ok X) 5 [.b true] (pA k19 pT) (by kernel_rfl)
            · obtain rfl := retE h
              exact fin (ok X) 5 [.b false] (pA k19 pT) (by kernel_rfl)
          · obtain ⟨v14, k20, h⟩ := bindE h
            refine adv (ok X) 5 [.b false, .o [0, 1, 2, 3, 4, 5], .e (f_r02_Expr v10), .c (r_r02_right v14)] (pA k17 (pA (ixr e_r02_Expr_eq k14) (pA (m_r02_right (X := X) k20) pT))) (by kernel_rfl) ?_
            rcases iteE h with ⟨k21, h⟩ | ⟨k21, h⟩
            · obtain rfl := retE h
              exact fin (ok X) 5 [.b true] (pA k21 pT) (by kernel_rfl)
            · obtain rfl := retE h
              exact fin (ok X) 5 [.b false] (pA k21 pT) (by kernel_rfl)
        · obtain rfl := retE h
          exact fin (ok X) 6 [.b false] (pA k11 pT) (by kernel_rfl)

theorem all_r02_deep : ∀ n : Nat, (∀ (a0 : r02_Expr) (r : Int), r02_deepN n a0 = some r → Cv Tryz.prog (GX X) 41 [.agg (bs (f_r02_Expr a0))] (r_r02_deep r))
  | 0 => (fun _ _ h => by rw [r02_deepN] at h; cases h)
  | n + 1 => by
    have ih := all_r02_deep n
    exact s_r02_deep ih

theorem m_r02_deep {a0 : r02_Expr} {r : Int} (h : r02_deep a0 = some r) : Cv Tryz.prog (GX X) 41 [.agg (bs (f_r02_Expr a0))] (r_r02_deep r) := by
  obtain ⟨n, hn⟩ := unfE h
  exact (all_r02_deep n) _ _ hn

theorem s_r02_blocks {n : Nat} (ih_r02_blocks : ∀ (a0 : (List r02_Stmt)) (r : (Int × Int)), r02_blocksN n a0 = some r → Cv Tryz.prog (GX X) 16 [xL (List.map e_r02_Stmt a0)] (r_r02_blocks r)) (a0 : (List r02_Stmt)) (r : (Int × Int)) (h : r02_blocksN (n + 1) a0 = some r) : Cv Tryz.prog (GX X) 16 [xL (List.map e_r02_Stmt a0)] (r_r02_blocks r) := by
  refine Cs.toV (?_ : Cs Tryz.prog (GX X) 16 [xL (List.map e_r02_Stmt a0)] [] (r_r02_blocks r) (o_r02_blocks r)) (by kernel_rfl)
  refine fnT (cx := cx X) Tryz.f16 Tryz.call16 Tryz.func16 (by kernel_rfl) ?_
  rw [r02_blocksN] at h
  refine adv (ok X) 7 [] pT (by kernel_rfl) ?_
  refine lp (ok X) (r02_blocks_l1 (r02_blocksN n) a0) (fun (x1 : (Int × Int × Int)) => ⟨128, 0, [(0, [xL (List.map e_r02_Stmt a0)]), (4, [xI x1.1]), (5, [xI x1.2.1]), (6, [xI x1.2.2])], []⟩) (fun (j1 : (Int × Int)) => ⟨128, 0, [(4, [xI j1.1]), (5, [xI j1.2])], []⟩) R_r02_blocks (0, 0, 0) (fun _ => ⟨_, _, _, _, rfl⟩) h (by kernel_rfl) (fun x1 o h => ?_) (fun r' h => ?_) (fun j1 h => ?_)
  · unfold r02_blocks_l1 at h
    refine adv (ok X) 3 [.i (a0.length : Int)] (pA (lm e_r02_Stmt a0) pT) (by kernel_rfl) ?_
    rcases iteE h with ⟨k1, h⟩ | ⟨k1, h⟩
    · refine adv (ok X) 3 [.b true] (pA k1 pT) (by kernel_rfl) ?_
      refine jn (ok X) 1 (fun (j2 : (Int × Int)) => ⟨128, 0, [(0, [xL (List.map e_r02_Stmt a0)]), (4, [xI j2.1]), (5, [xI j2.2]), (6, [xI x1.2.2])], []⟩) h (fun j2 h => ?_) (fun j2 h => ?_)
      · obtain ⟨v1, k2, h⟩ := bindE h
        refine adv (ok X) 12 [.e (f_r02_Stmt v1)] (pA (ixr e_r02_Stmt_eq k2) pT) (by kernel_rfl) ?_
        rcases iteE h with ⟨k3, h⟩ | ⟨k3, h⟩
        · obtain ⟨v2, k4, h⟩ := bindE h
          refine adv (ok X) 7 [.b true, .b true, .c (r_r02_deep v2)] (pA k3 (pA k3 (pA (m_r02_deep (X := X) k4) pT))) (by kernel_rfl) ?_
          refine lp (ok X) (r02_blocks_l3 (r02_blocksN n)) (fun (x3 : Unit) => ⟨128, 0, [(0, [xL (List.map e_r02_Stmt a0)]), (4, [xI x1.1]), (5, [xI (max x1.2.1 v2)]), (6, [xI x1.2.2]), (8, [.c (.emp)]), (10, [xI 0])], []⟩) (fun (j3 : Unit) => ⟨128, 0, [(0, [xL (List.map e_r02_Stmt a0)]), (4, [xI x1.1]), (5, [xI (max x1.2.1 v2)]), (6, [xI x1.2.2])], []⟩) R_r02_blocks () (fun _ => ⟨_, _, _, _, rfl⟩) h (by kernel_rfl) (fun x3 o h => ?_) (fun r' h => ?_) (fun j3 h => ?_)
          · unfold r02_blocks_l3 at h
            rcases iteE h with ⟨k5, h⟩ | ⟨k5, h⟩
            · cases h
            · obtain rfl := retE h
              exact fin (ok X) 5 [.b false] (pA k5 pT) (by kernel_rfl)
          · cases h
          · obtain rfl := retE h
            exact fin (ok X) 1 [] pT (by kernel_rfl)
        · refine adv (ok X) 2 [.b false] (pA k3 pT) (by kernel_rfl) ?_
          rcases iteE h with ⟨k6, h⟩ | ⟨k6, h⟩
          · obtain ⟨v3, k7, h⟩ := bindE h
            refine adv (ok X) 5 [.b true, .c (r_r02_deep v3)] (pA k6 (pA (m_r02_deep (X := X) k7) pT)) (by kernel_rfl) ?_
            refine lp (ok X) (r02_blocks_l4 (r02_blocksN n)) (fun (x4 : Unit) => ⟨128, 0, [(0, [xL (List.map e_r02_Stmt a0)]), (4, [xI x1.1]), (5, [xI (max x1.2.1 v3)]), (6, [xI x1.2.2]), (8, [.c (.emp)]), (10, [xI 0])], []⟩) (fun (j4 : Unit) => ⟨128, 0, [(0, [xL (List.map e_r02_Stmt a0)]), (4, [xI x1.1]), (5, [xI (max x1.2.1 v3)]), (6, [xI x1.2.2])], []⟩) R_r02_blocks () (fun _ => ⟨_, _, _, _, rfl⟩) h (by kernel_rfl) (fun x4 o h => ?_) (fun r' h => ?_) (fun j4 h => ?_)
            · unfold r02_blocks_l4 at h
              rcases iteE h with ⟨k8, h⟩ | ⟨k8, h⟩
              · cases h
              · obtain rfl := retE h
                exact fin (ok X) 5 [.b false] (pA k8 pT) (by kernel_rfl)
            · cases h
            · obtain rfl := retE h
              exact fin (ok X) 1 [] pT (by kernel_rfl)
          · refine adv (ok X) 3 [.b false] (pA k6 pT) (by kernel_rfl) ?_
            rcases iteE h with ⟨k9, h⟩ | ⟨k9, h⟩
            · obtain ⟨v4, k10, h⟩ := bindE h
              obtain ⟨v5, k11, h⟩ := bindE h
              obtain ⟨v6, k12, h⟩ := bindE h
              refine adv (ok X) 9 [.b true, .l (List.map e_sl27 v4), .o [0, 1, 2, 3, 4, 5, 6, 7, 8, 9, 10], .c (r_r02_deep v5), .c (r_r02_deep v6)] (pA k9 (pA (apm (L := []) (M := [v1.Body, v1.Else]) e_sl27_len k10) (pA (m_r02_deep (X := X) k11) (pA (m_r02_deep (X := X) k12) pT)))) (by kernel_rfl) ?_
              refine lp (ok X) (r02_blocks_l5 (r02_blocksN n) v4) (fun (x5 : (Int × Int × Int)) => ⟨128, 0, [(0, [xL (List.map e_r02_Stmt a0)]), (4, [xI x5.1]), (5, [xI x5.2.1]), (6, [xI x1.2.2]), (8, [xR 1]), (10, [xI x5.2.2])], [none, oR true 27 1 (List.map e_sl27 v4)]⟩) (fun (j5 : (Int × Int)) => ⟨128, 0, [(0, [xL (List.map e_r02_Stmt a0)]), (4, [xI j5.1]), (5, [xI j5.2]), (6, [xI x1.2.2])], []⟩) R_r02_blocks ((max x1.1 1), (max (max x1.2.1 v5) v6), 0) (fun _ => ⟨_, _, _, _, rfl⟩) h (by kernel_rfl) (fun x5 o h => ?_) (fun r' h => ?_) (fun j5 h => ?_)
              · unfold r02_blocks_l5 at h
                refine adv (ok X) 3 [.i (v4.length : Int)] (pA (lm e_sl27 v4) pT) (by kernel_rfl) ?_
                rcases iteE h with ⟨k13, h⟩ | ⟨k13, h⟩
                · obtain ⟨v7, k14, h⟩ := bindE h
                  obtain ⟨v8, k15, h⟩ := bindE h
                  obtain rfl := retE h
                  exact fin (ok X) 9 [.b true, .e [.sl (List.map e_r02_Stmt v7)], .e [.sl (List.map e_r02_Stmt v7)], .c (r_r02_blocks v8)] (pA k13 (pA (ixm e_sl27 k14) (pA (rwm e_sl27 k14) (pA (ih_r02_blocks _ _ k15) pT)))) (by kernel_rfl)
                · obtain rfl := retE h
                  exact fin (ok X) 2 [.b false] (pA k13 pT) (by kernel_rfl)
              · cases h
              · obtain rfl := retE h
                exact fin (ok X) 1 [] pT (by kernel_rfl)
            · refine adv (ok X) 3 [.b false] (pA k9 pT) (by kernel_rfl) ?_
              rcases iteE h with ⟨k16, h⟩ | ⟨k16, h⟩
              · obtain ⟨v9, k17, h⟩ := bindE h
                obtain ⟨v10, k18, h⟩ := bindE h
                obtain ⟨v11, k19, h⟩ := bindE h
                refine adv (ok X) 9 [.b true, .l (List.map e_sl27 v9), .o [0, 1, 2, 3, 4, 5, 6, 7, 8, 9, 10], .c (r_r02_deep v10), .c (r_r02_deep v11)] (pA k16 (pA (apm (L := []) (M := [v1.Body]) e_sl27_len k17) (pA (m_r02_deep (X := X) k18) (pA (m_r02_deep (X := X) k19) pT)))) (by kernel_rfl) ?_
                refine lp (ok X) (r02_blocks_l6 (r02_blocksN n) v9) (fun (x6 : (Int × Int × Int)) => ⟨128, 0, [(0, [xL (List.map e_r02_Stmt a0)]), (4, [xI x6.1]), (5, [xI x6.2.1]), (6, [xI x1.2.2]), (8, [xR 1]), (10, [xI x6.2.2])], [none, oR true 27 1 (List.map e_sl27 v9)]⟩) (fun (j6 : (Int × Int)) => ⟨128, 0, [(0, [xL (List.map e_r02_Stmt a0)]), (4, [xI j6.1]), (5, [xI j6.2]), (6, [xI x1.2.2])], []⟩) R_r02_blocks ((max x1.1 1), (max (max x1.2.1 v10) v11), 0) (fun _ => ⟨_, _, _, _, rfl⟩) h (by kernel_rfl) (fun x6 o h => ?_) (fun r' h => ?_) (fun j6 h => ?_)
                · unfold r02_blocks_l6 at h
                  refine adv (ok X) 3 [.i (v9.length : Int)] (pA (lm e_sl27 v9) pT) (by kernel_rfl) ?_
                  rcases iteE h with ⟨k20, h⟩ | ⟨k20, h⟩
                  · obtain ⟨v12, k21, h⟩ := bindE h
                    obtain ⟨v13, k22, h⟩ := bindE h
                    obtain rfl := retE h
                    exact fin (ok X) 9 [.b true, .e [.sl (List.map e_r02_Stmt v12)], .e [.sl (List.map e_r02_Stmt v12)], .c (r_r02_blocks v13)] (pA k20 (pA (ixm e_sl27 k21) (pA (rwm e_sl27 k21) (pA (ih_r02_blocks _ _ k22) pT)))) (by kernel_rfl)
                  · obtain rfl := retE h
                    exact fin (ok X) 2 [.b false] (pA k20 pT) (by kernel_rfl)
                · cases h
                · obtain rfl := retE h
                  exact fin (ok X) 1 [] pT (by kernel_rfl)
              · refine adv (ok X) 3 [.b false] (pA k16 pT) (by kernel_rfl) ?_
                rcases iteE h with ⟨k23, h⟩ | ⟨k23, h⟩
                · refine adv (ok X) 4 [.b true] (pA k23 pT) (by kernel_rfl) ?_
                  refine lp (ok X) (r02_blocks_l7 (r02_blocksN n) v1) (fun (x7 : (Int × (List (List r02_Stmt)))) => ⟨128, 0, [(0, [xL (List.map e_r02_Stmt a0)]), (4, [xI x1.1]), (5, [xI x1.2.1]), (6, [xI x1.2.2]), (7, [xP 0 0]), (8, [xR 1]), (9, [xI x7.1])], [oB 30 (bs (f_r02_Stmt v1)), oR true 27 1 (List.map e_sl27 x7.2)]⟩) (fun (j7 : (List (List r02_Stmt))) => ⟨128, 0, [(0, [xL (List.map e_r02_Stmt a0)]), (4, [xI x1.1]), (5, [xI x1.2.1]), (6, [xI x1.2.2]), (8, [xR 1])], [none, oR true 27 1 (List.map e_sl27 j7)]⟩) R_r02_blocks (0, []) (fun _ => ⟨_, _, _, _, rfl⟩) h (by kernel_rfl) (fun x7 o h => ?_) (fun r' h => ?_) (fun j7 h => ?_)
                  · unfold r02_blocks_l7 at h
                    refine adv (ok X) 3 [.i (v1.Arms.length : Int)] (pA (lm e_r02_Arm v1.Arms) pT) (by kernel_rfl) ?_
                    rcases iteE h with ⟨k24, h⟩ | ⟨k24, h⟩
                    · obtain ⟨v14, k25, h⟩ := bindE h
                      obtain ⟨v15, k26, h⟩ := bindE h
                      obtain rfl := retE h
                      exact fin (ok X) 7 [.b true, .e (f_r02_Arm v14), .l (List.map e_sl27 v15)] (pA k24 (pA (ixr e_r02_Arm_eq k25) (pA (apm (L := x7.2) (M := [v14.Body]) e_sl27_len k26) pT))) (by kernel_rfl)
                    · obtain rfl := retE h
                      exact fin (ok X) 2 [.b false] (pA k24 pT) (by kernel_rfl)
                  · cases h
                  · refine adv (ok X) 4 [] pT (by kernel_rfl) ?_
                    refine lp (ok X) (r02_blocks_l8 (r02_blocksN n) j7) (fun (x8 : (Int × Int × Int)) => ⟨128, 0, [(0, [xL (List.map e_r02_Stmt a0)]), (4, [xI x8.1]), (5, [xI x8.2.1]), (6, [xI x1.2.2]), (8, [xR 1]), (10, [xI x8.2.2])], [none, oR true 27 1 (List.map e_sl27 j7)]⟩) (fun (j8 : (Int × Int)) => ⟨128, 0, [(0, [xL (List.map e_r02_Stmt a0)]), (4, [xI j8.1]), (5, [xI j8.2]), (6, [xI x1.2.2])], []⟩) R_r02_blocks ((max x1.1 1), x1.2.1, 0) (fun _ => ⟨_, _, _, _, rfl⟩) h (by kernel_rfl) (fun x8 o h => ?_) (fun r' h => ?_) (fun j8 h => ?_)
                    · unfold r02_blocks_l8 at h
                      refine adv (ok X) 3 [.i (j7.length : Int)] (pA (lm e_sl27 j7) pT) (by kernel_rfl) ?_
                      rcases iteE h with ⟨k27, h⟩ | ⟨k27, h⟩
                      · obtain ⟨v16, k28, h⟩ := bindE h
                        obtain ⟨v17, k29, h⟩ := bindE h
                        obtain rfl := retE h
                        exact fin (ok X) 9 [.b true, .e [.sl (List.map e_r02_Stmt v16)], .e [.sl (List.map e_r02_Stmt v16)], .c (r_r02_blocks v17)] (pA k27 (pA (ixm e_sl27 k28) (pA (rwm e_sl27 k28) (pA (ih_r02_blocks _ _ k29) pT)))) (by kernel_rfl)
                      · obtain rfl := retE h
                        exact fin (ok X) 2 [.b false] (pA k27 pT) (by kernel_rfl)
                    · cases h
                    · obtain rfl := retE h
                      exact fin (ok X) 1 [] pT (by kernel_rfl)
                · refine adv (ok X) 3 [.b false] (pA k23 pT) (by kernel_rfl) ?_
                  rcases iteE h with ⟨k30, h⟩ | ⟨k30, h⟩
                  · obtain ⟨v18, k31, h⟩ := bindE h
                    obtain ⟨v19, k32, h⟩ := bindE h
                    refine adv (ok X) 5 [.b true, .o [0, 1, 2, 3, 4, 5, 6, 7, 8, 9, 10], .c (r_r02_deep v18), .c (r_r02_deep v19)] (pA k30 (pA (m_r02_deep (X := X) k31) (pA (m_r02_deep (X := X) k32) pT))) (by kernel_rfl) ?_
                    refine lp (ok X) (r02_blocks_l9 (r02_blocksN n)) (fun (x9 : Unit) => ⟨128, 0, [(0, [xL (List.map e_r02_Stmt a0)]), (4, [xI x1.1]), (5, [xI (max (max x1.2.1 v18) v19)]), (6, [xI x1.2.2]), (8, [.c (.emp)]), (10, [xI 0])], []⟩) (fun (j9 : Unit) => ⟨128, 0, [(0, [xL (List.map e_r02_Stmt a0)]), (4, [xI x1.1]), (5, [xI (max (max x1.2.1 v18) v19)]), (6, [xI x1.2.2])], []⟩) R_r02_blocks () (fun _ => ⟨_, _, _, _, rfl⟩) h (by kernel_rfl) (fun x9 o h => ?_) (fun r' h => ?_) (fun j9 h => ?_)
                    · unfold r02_blocks_l9 at h
                      rcases iteE h with ⟨k33, h⟩ | ⟨k33, h⟩
                      · cases h
                      · obtain rfl := retE h
                        exact fin (ok X) 5 [.b false] (pA k33 pT) (by kernel_rfl)
                    · cases h
                    · obtain rfl := retE h
                      exact fin (ok X) 1 [] pT (by kernel_rfl)
                  · refine adv (ok X) 5 [.b false] (pA k30 pT) (by kernel_rfl) ?_
                    refine lp (ok X) (r02_blocks_l10 (r02_blocksN n)) (fun (x10 : Unit) => ⟨128, 0, [(0, [xL (List.map e_r02_Stmt a0)]), (4, [xI x1.1]), (5, [xI x1.2.1]), (6, [xI x1.2.2]), (8, [.c (.emp)]), (10, [xI 0])], []⟩) (fun (j10 : Unit) => ⟨128, 0, [(0, [xL (List.map e_r02_Stmt a0)]), (4, [xI x1.1]), (5, [xI x1.2.1]), (6, [xI x1.2.2])], []⟩) R_r02_blocks () (fun _ => ⟨_, _, _, _, rfl⟩) h (by kernel_rfl) (fun x10 o h => ?_) (fun r' h => ?_) (fun j10 h => ?_)
                    · unfold r02_blocks_l10 at h
                      rcases iteE h with ⟨k34, h⟩ | ⟨k34, h⟩
                      · cases h
                      · obtain rfl := retE h
                        exact fin (ok X) 5 [.b false] (pA k34 pT) (by kernel_rfl)
                    · cases h
                    · obtain rfl := retE h
                      exact fin (ok X) 1 [] pT (by kernel_rfl)
      · obtain rfl := retE h
        exact fin (ok X) 1 [] pT (by kernel_rfl)
    · obtain rfl := retE h
      exact fin (ok X) 2 [.b false] (pA k1 pT) (by kernel_rfl)
  · cases h
  · obtain rfl := retE h
    exact fin (ok X) 3 [] pT (by kernel_rfl)

theorem all_r02_blocks : ∀ n : Nat, (∀ (a0 : (List r02_Stmt)) (r : (Int × Int)), r02_blocksN n a0 = some r → Cv Tryz.prog (GX X) 16 [xL (List.map e_r02_Stmt a0)] (r_r02_blocks r))
  | 0 => (fun _ _ h => by rw [r02_blocksN] at h; cases h)
  | n + 1 => by
    have ih := all_r02_blocks n
    exact s_r02_blocks ih

theorem m_r02_blocks {a0 : (List r02_Stmt)} {r : (Int × Int)} (h : r02_blocks a0 = some r) : Cv Tryz.prog (GX X) 16 [xL (List.map e_r02_Stmt a0)] (r_r02_blocks r) := by
  obtain ⟨n, hn⟩ := unfE h
  exact (all_r02_blocks n) _ _ hn

theorem s_r02_exprWords {n : Nat} (ih_r02_exprWords : ∀ (a0 : r02_Expr) (r : (List ByteArray)), r02_exprWordsN n a0 = some r → Cs Tryz.prog (GX X) 42 [.agg (bs (f_r02_Expr a0))] [] (r_r02_exprWords r) (o_r02_exprWords r)) (ih_r02_in : ∀ (a0 : r02_Expr) (a1 : Bool) (r : (List ByteArray)), r02_inN n a0 a1 = some r → Cs Tryz.prog (GX X) 59 [.agg (bs (f_r02_Expr a0)), xB a1] [] (r_r02_in r) (o_r02_in r)) (a0 : r02_Expr) (r : (List ByteArray)) (h : r02_exprWordsN (n + 1) a0 = some r) : Cs Tryz.prog (GX X) 42 [.agg (bs (f_r02_Expr a0))] [] (r_r02_exprWords r) (o_r02_exprWords r) := by
  refine fnT (cx := cx X) Tryz.f42 Tryz.call42 Tryz.func42 (by kernel_rfl) ?_
  rw [r02_exprWordsN] at h
  rcases iteE h with ⟨k1, h⟩ | ⟨k1, h⟩
  · refine adv (ok X) 14 [.b true] (pA k1 pT) (by kernel_rfl) ?_
    refine lp (ok X) (r02_exprWords_l1 (r02_exprWordsN n) (r02_inN n)) (fun (x1 : (ByteArray × Int)) => ⟨83, 0, [(3, [xS x1.1]), (4, [xI x1.2])], []⟩) (fun (j1 : ByteArray) => ⟨83, 0, [(3, [xS j1])], []⟩) R_r02_exprWords ((ByteArray.mk #[]), a0.Num) (fun _ => ⟨_, _, _, _, rfl⟩) h (by kernel_rfl) (fun x1 o h => ?_) (fun r' h => ?_) (fun j1 h => ?_)
    · unfold r02_exprWords_l1 at h
      refine adv (ok X) 2 [] pT (by kernel_rfl) ?_
      refine jn (ok X) 1 (fun (j2 : Bool) => ⟨83, 0, [(3, [xS x1.1]), (4, [xI x1.2]), (17, [xB j2])], []⟩) h (fun j2 h => ?_) (fun j2 h => ?_)
      · rcases iteE h with ⟨k2, h⟩ | ⟨k2, h⟩
        · obtain rfl := retE h
          exact fin (ok X) 1 [.b true, .b true, .b true] (pA k2 (pA k2 (pA k2 pT))) (by kernel_rfl)
        · obtain rfl := retE h
          exact fin (ok X) 1 [.b false, .b false, .b false] (pA k2 (pA k2 (pA k2 pT))) (by kernel_rfl)
      · rcases iteE h with ⟨k3, h⟩ | ⟨k3, h⟩
        · obtain ⟨v1, k4, h⟩ := bindE h
          obtain ⟨v2, k5, h⟩ := bindE h
          obtain ⟨v3, k6, h⟩ := bindE h
          obtain rfl := retE h
          exact fin (ok X) 7 [.b true, .i v1, .x [xS (strOfNums [(IntKind.u8.wrap (IntKind.i64.wrap (48 + v1)))])], .x [xS v2], .i v3] (pA k3 (pA k4 (pA (byS [(IntKind.u8.wrap (IntKind.i64.wrap (48 + v1)))]) (pA k5 (pA k6 pT))))) (by kernel_rfl)
        · obtain rfl := retE h
          exact fin (ok X) 2 [.b false] (pA k3 pT) (by kernel_rfl)
    · cases h
    · obtain rfl := retE h
      exact fin (ok X) 3 [.own] pT (by kernel_rfl)
  · refine adv (ok X) 11 [.b false] (pA k1 pT) (by kernel_rfl) ?_
    rcases iteE h with ⟨k7, h⟩ | ⟨k7, h⟩
    · obtain rfl := retE h
      exact fin (ok X) 4 [.b true, .own] (pA k7 pT) (by kernel_rfl)
    · refine adv (ok X) 3 [.b false] (pA k7 pT) (by kernel_rfl) ?_
      rcases iteE h with ⟨k8, h⟩ | ⟨k8, h⟩
      · obtain ⟨v4, k9, h⟩ := bindE h
        obtain ⟨v5, k10, h⟩ := bindE h
        obtain ⟨v6, k11, h⟩ := bindE h
        obtain ⟨v7, k12, h⟩ := bindE h
        obtain rfl := retE h
        exact fin (ok X) 4 [.b true, .o [0, 1, 2, 3, 4, 5, 6, 7, 8, 9, 10, 11, 12, 13], .own, .e (f_r02_Expr v4), .e (f_r02_Expr v4), .c (r_r02_two v5), .sb (r_r02_in v6) (o_r02_in v6), .l (List.map e_str v7)] (pA k8 (pA (ixr e_r02_Expr_eq k9) (pA (ixr e_r02_Expr_eq k9) (pA (m_r02_two (X := X) k10) (pA (ih_r02_in _ _ _ k11) (pA (apm (L := [(ByteArray.mk #[45])]) (M := v6) e_str_len k12) pT)))))) (by kernel_rfl)
      · obtain ⟨v8, k13, h⟩ := bindE h
        obtain ⟨v9, k14, h⟩ := bindE h
        obtain ⟨v10, k15, h⟩ := bindE h
        obtain ⟨v11, k16, h⟩ := bindE h
        obtain ⟨v12, k17, h⟩ := bindE h
        obtain ⟨v13, k18, h⟩ := bindE h
        obtain ⟨v14, k19, h⟩ := bindE h
        obtain ⟨v15, k20, h⟩ := bindE h
        obtain ⟨v16, k21, h⟩ := bindE h
        obtain rfl := retE h
        exact fin (ok X) 10 [.b false, .o [0, 1, 2, 3, 4, 5, 6, 7, 8, 9, 10, 11], .e (f_r02_Expr v8), .e (f_r02_Expr v8), .c (r_r02_left v9), .sb (r_r02_in v10) (o_r02_in v10), .e [.str v11], .l (List.map e_str v12), .o [0, 1, 2, 3, 4, 5, 6, 7, 8, 9, 10, 11, 12, 13], .e (f_r02_Expr v13), .e (f_r02_Expr v13), .c (r_r02_right v14), .sb (r_r02_in v15) (o_r02_in v15), .l (List.map e_str v16)] (pA k8 (pA (ixr e_r02_Expr_eq k13) (pA (ixr e_r02_Expr_eq k13) (pA (m_r02_left (X := X) k14) (pA (ih_r02_in _ _ _ k15) (pA (ixm e_str k16) (pA (apm (L := v10) (M := [v11]) e_str_len k17) (pA (ixr e_r02_Expr_eq k18) (pA (ixr e_r02_Expr_eq k18) (pA (m_r02_right (X := X) k19) (pA (ih_r02_in _ _ _ k20) (pA (apm (L := v12) (M := v15) e_str_len k21) pT)))))))))))) (by kernel_rfl)

theorem s_r02_in {n : Nat} (ih_r02_exprWords : ∀ (a0 : r02_Expr) (r : (List ByteArray)), r02_exprWordsN n a0 = some r → Cs Tryz.prog (GX X) 42 [.agg (bs (f_r02_Expr a0))] [] (r_r02_exprWords r) (o_r02_exprWords r)) (ih_r02_in : ∀ (a0 : r02_Expr) (a1 : Bool) (r : (List ByteArray)), r02_inN n a0 a1 = some r → Cs Tryz.prog (GX X) 59 [.agg (bs (f_r02_Expr a0)), xB a1] [] (r_r02_in r) (o_r02_in r)) (a0 : r02_Expr) (a1 : Bool) (r : (List ByteArray)) (h : r02_inN (n + 1) a0 a1 = some r) : Cs Tryz.prog (GX X) 59 [.agg (bs (f_r02_Expr a0)), xB a1] [] (r_r02_in r) (o_r02_in r) := by
  refine fnT (cx := cx X) Tryz.f59 Tryz.call59 Tryz.func59 (by kernel_rfl) ?_
  rw [r02_inN] at h
  obtain ⟨v1, k1, h⟩ := bindE h
  refine adv (ok X) 7 [.s (r_r02_exprWords v1) (o_r02_exprWords v1)] (pA (ih_r02_exprWords _ _ k1) pT) (by kernel_rfl) ?_
  rcases iteE h with ⟨k2, h⟩ | ⟨k2, h⟩
  · obtain ⟨v2, k3, h⟩ := bindE h
    obtain ⟨v3, k4, h⟩ := bindE h
    obtain rfl := retE h
    exact fin (ok X) 4 [.b true, .own, .l (List.map e_str v2), .l (List.map e_str v3)] (pA k2 (pA (apm (L := [(ByteArray.mk #[40])]) (M := v1) e_str_len k3) (pA (apm (L := v2) (M := [(ByteArray.mk #[41])]) e_str_len k4) pT))) (by kernel_rfl)
  · obtain rfl := retE h
    exact fin (ok X) 5 [.b false] (pA k2 pT) (by kernel_rfl)

theorem all_r02_exprWords : ∀ n : Nat, (∀ (a0 : r02_Expr) (r : (List ByteArray)), r02_exprWordsN n a0 = some r → Cs Tryz.prog (GX X) 42 [.agg (bs (f_r02_Expr a0))] [] (r_r02_exprWords r) (o_r02_exprWords r)) ∧ (∀ (a0 : r02_Expr) (a1 : Bool) (r : (List ByteArray)), r02_inN n a0 a1 = some r → Cs Tryz.prog (GX X) 59 [.agg (bs (f_r02_Expr a0)), xB a1] [] (r_r02_in r) (o_r02_in r))
  | 0 => ⟨(fun _ _ h => by rw [r02_exprWordsN] at h; cases h), (fun _ _ _ h => by rw [r02_inN] at h; cases h)⟩
  | n + 1 => by
    have ih := all_r02_exprWords n
    exact ⟨s_r02_exprWords ih.1 ih.2, s_r02_in ih.1 ih.2⟩

theorem m_r02_exprWords {a0 : r02_Expr} {r : (List ByteArray)} (h : r02_exprWords a0 = some r) : Cs Tryz.prog (GX X) 42 [.agg (bs (f_r02_Expr a0))] [] (r_r02_exprWords r) (o_r02_exprWords r) := by
  obtain ⟨n, hn⟩ := unfE h
  exact (all_r02_exprWords n).1 _ _ hn

theorem m_r02_in {a0 : r02_Expr} {a1 : Bool} {r : (List ByteArray)} (h : r02_in a0 a1 = some r) : Cs Tryz.prog (GX X) 59 [.agg (bs (f_r02_Expr a0)), xB a1] [] (r_r02_in r) (o_r02_in r) := by
  obtain ⟨n, hn⟩ := unfE h
  exact (all_r02_exprWords n).2 _ _ _ hn

theorem m_r02_digits {a0 : Int} {r : ByteArray} (h : r02_digits a0 = some r) : Cv Tryz.prog (GX X) 17 [xI a0] (r_r02_digits r) := by
  refine Cs.toV (?_ : Cs Tryz.prog (GX X) 17 [xI a0] [] (r_r02_digits r) (o_r02_digits r)) (by kernel_rfl)
  refine fnT (cx := cx X) Tryz.f17 Tryz.call17 Tryz.func17 (by kernel_rfl) ?_
  unfold r02_digits at h
  obtain ⟨v1, k1, h⟩ := bindE h
  obtain ⟨v2, k2, h⟩ := bindE h
  obtain rfl := retE h
  exact fin (ok X) 5 [.s (r_r02_exprWords v1) (o_r02_exprWords v1), .e [.str v2], .e [.str v2]] (pA (m_r02_exprWords (X := X) k1) (pA (ixm e_str k2) (pA (rwm e_str k2) pT))) (by kernel_rfl)

theorem m_r02_condWords {a0 : r02_Cond} {r : (List ByteArray)} (h : r02_condWords a0 = some r) : Cv Tryz.prog (GX X) 43 [.agg (bs (e_r02_Cond a0))] (r_r02_condWords r) := by
  refine Cs.toV (?_ : Cs Tryz.prog (GX X) 43 [.agg (bs (e_r02_Cond a0))] [] (r_r02_condWords r) (o_r02_condWords r)) (by kernel_rfl)
  refine fnT (cx := cx X) Tryz.f43 Tryz.call43 Tryz.func43 (by kernel_rfl) ?_
  unfold r02_condWords at h
  obtain ⟨v1, k1, h⟩ := bindE h
  obtain ⟨v2, k2, h⟩ := bindE h
  obtain ⟨v3, k3, h⟩ := bindE h
  obtain ⟨v4, k4, h⟩ := bindE h
  obtain ⟨v5, k5, h⟩ := bindE h
  obtain ⟨v6, k6, h⟩ := bindE h
  obtain ⟨v7, k7, h⟩ := bindE h
  obtain rfl := retE h
  exact fin (ok X) 9 [.own, .s (r_r02_exprWords v1) (o_r02_exprWords v1), .l (List.map e_str v2), .e [.str v3], .l (List.map e_str v4), .s (r_r02_exprWords v5) (o_r02_exprWords v5), .l (List.map e_str v6), .l (List.map e_str v7)] (pA (m_r02_exprWords (X := X) k1) (pA (apm (L := [(ByteArray.mk #[40])]) (M := v1) e_str_len k2) (pA (ixm e_str k3) (pA (apm (L := v2) (M := [v3]) e_str_len k4) (pA (m_r02_exprWords (X := X) k5) (pA (apm (L := v4) (M := v5) e_str_len k6) (pA (apm (L := v6) (M := [(ByteArray.mk #[41])]) e_str_len k7) pT))))))) (by kernel_rfl)

theorem s_r02_stmtWords {n : Nat} (ih_r02_stmtWords : ∀ (a0 : (List r02_Stmt)) (r : (List ByteArray)), r02_stmtWordsN n a0 = some r → Cv Tryz.prog (GX X) 18 [xL (List.map e_r02_Stmt a0)] (r_r02_stmtWords r)) (ih_r02_block : ∀ (a0 : (List r02_Stmt)) (r : (List ByteArray)), r02_blockN n a0 = some r → Cv Tryz.prog (GX X) 44 [xL (List.map e_r02_Stmt a0)] (r_r02_block r)) (a0 : (List r02_Stmt)) (r : (List ByteArray)) (h : r02_stmtWordsN (n + 1) a0 = some r) : Cv Tryz.prog (GX X) 18 [xL (List.map e_r02_Stmt a0)] (r_r02_stmtWords r) := by
  refine Cs.toV (?_ : Cs Tryz.prog (GX X) 18 [xL (List.map e_r02_Stmt a0)] [] (r_r02_stmtWords r) (o_r02_stmtWords r)) (by kernel_rfl)
  refine fnT (cx := cx X) Tryz.f18 Tryz.call18 Tryz.func18 (by kernel_rfl) ?_
  rw [r02_stmtWordsN] at h
  refine adv (ok X) 7 [] pT (by kernel_rfl) ?_
  refine lp (ok X) (r02_stmtWords_l1 (r02_stmtWordsN n) (r02_blockN n) a0) (fun (x1 : (Int × (List ByteArray))) => ⟨143, 0, [(0, [xL (List.map e_r02_Stmt a0)]), (3, [xR 0]), (4, [xI x1.1])], [oR true 9 1 (List.map e_str x1.2)]⟩) (fun (j1 : (List ByteArray)) => ⟨143, 0, [(3, [xR 0])], [oR true 9 1 (List.map e_str j1)]⟩) R_r02_stmtWords (0, []) (fun _ => ⟨_, _, _, _, rfl⟩) h (by kernel_rfl) (fun x1 o h => ?_) (fun r' h => ?_) (fun j1 h => ?_)
  · unfold r02_stmtWords_l1 at h
    refine adv (ok X) 3 [.i (a0.length : Int)] (pA (lm e_r02_Stmt a0) pT) (by kernel_rfl) ?_
    rcases iteE h with ⟨k1, h⟩ | ⟨k1, h⟩
    · refine adv (ok X) 3 [.b true] (pA k1 pT) (by kernel_rfl) ?_
      refine jn (ok X) 1 (fun (j2 : (List ByteArray)) => ⟨143, 0, [(0, [xL (List.map e_r02_Stmt a0)]), (3, [xR 0]), (4, [xI x1.1])], [oR true 9 1 (List.map e_str j2)]⟩) h (fun j2 h => ?_) (fun j2 h => ?_)
      · obtain ⟨v1, k2, h⟩ := bindE h
        refine adv (ok X) 8 [.e (f_r02_Stmt v1)] (pA (ixr e_r02_Stmt_eq k2) pT) (by kernel_rfl) ?_
        rcases iteE h with ⟨k3, h⟩ | ⟨k3, h⟩
        · obtain ⟨v2, k4, h⟩ := bindE h
          obtain ⟨v3, k5, h⟩ := bindE h
          obtain ⟨v4, k6, h⟩ := bindE h
          obtain ⟨v5, k7, h⟩ := bindE h
          obtain rfl := retE h
          exact fin (ok X) 4 [.b true, .o [0, 1, 2, 3, 5, 6, 9, 4, 7, 8, 10, 11], .l (List.map e_str v2), .sb (r_r02_exprWords v3) (o_r02_exprWords v3), .l (List.map e_str v4), .l (List.map e_str v5)] (pA k3 (pA (apm (L := x1.2) (M := [v1.Name, (ByteArray.mk #[61])]) e_str_len k4) (pA (m_r02_exprWords (X := X) k5) (pA (apm (L := v2) (M := v3) e_str_len k6) (pA (apm (L := v4) (M := [(ByteArray.mk #[59])]) e_str_len k7) pT))))) (by kernel_rfl)
        · refine adv (ok X) 3 [.b false] (pA k3 pT) (by kernel_rfl) ?_
          rcases iteE h with ⟨k8, h⟩ | ⟨k8, h⟩
          · obtain ⟨v6, k9, h⟩ := bindE h
            obtain ⟨v7, k10, h⟩ := bindE h
            obtain ⟨v8, k11, h⟩ := bindE h
            obtain ⟨v9, k12, h⟩ := bindE h
            obtain ⟨v10, k13, h⟩ := bindE h
            refine adv (ok X) 5 [.b true, .o [0, 1, 3, 4, 7, 8, 2, 5, 6, 9, 10, 11], .l (List.map e_str v6), .c (r_r02_condWords v7), .l (List.map e_str v8), .c (r_r02_block v9), .l (List.map e_str v10), .i (v1.Else.length : Int)] (pA k8 (pA (apm (L := x1.2) (M := [(ByteArray.mk #[105, 102])]) e_str_len k9) (pA (m_r02_condWords (X := X) k10) (pA (apm (L := v6) (M := v7) e_str_len k11) (pA (ih_r02_block _ _ k12) (pA (apm (L := v8) (M := v9) e_str_len k13) (pA (lm e_r02_Stmt v1.Else) pT))))))) (by kernel_rfl) ?_
            rcases iteE h with ⟨k14, h⟩ | ⟨k14, h⟩
            · obtain ⟨v11, k15, h⟩ := bindE h
              obtain ⟨v12, k16, h⟩ := bindE h
              obtain ⟨v13, k17, h⟩ := bindE h
              obtain rfl := retE h
              exact fin (ok X) 4 [.b true, .o [0, 1, 3, 4, 2, 5, 6, 7], .l (List.map e_str v11), .c (r_r02_block v12), .l (List.map e_str v13)] (pA k14 (pA (apm (L := v10) (M := [(ByteArray.mk #[101, 108, 115, 101])]) e_str_len k15) (pA (ih_r02_block _ _ k16) (pA (apm (L := v11) (M := v12) e_str_len k17) pT)))) (by kernel_rfl)
            · obtain rfl := retE h
              exact fin (ok X) 4 [.b false] (pA k14 pT) (by kernel_rfl)
          · refine adv (ok X) 3 [.b false] (pA k8 pT) (by kernel_rfl) ?_
            rcases iteE h with ⟨k18, h⟩ | ⟨k18, h⟩
            · obtain ⟨v14, k19, h⟩ := bindE h
              obtain ⟨v15, k20, h⟩ := bindE h
              obtain ⟨v16, k21, h⟩ := bindE h
              obtain ⟨v17, k22, h⟩ := bindE h
              obtain ⟨v18, k23, h⟩ := bindE h
              obtain rfl := retE h
              exact fin (ok X) 4 [.b true, .o [0, 1, 3, 4, 7, 8, 2, 5, 6, 9, 10, 11], .l (List.map e_str v14), .c (r_r02_condWords v15), .l (List.map e_str v16), .c (r_r02_block v17), .l (List.map e_str v18)] (pA k18 (pA (apm (L := x1.2) (M := [(ByteArray.mk #[119, 104, 105, 108, 101])]) e_str_len k19) (pA (m_r02_condWords (X := X) k20) (pA (apm (L := v14) (M := v15) e_str_len k21) (pA (ih_r02_block _ _ k22) (pA (apm (L := v16) (M := v17) e_str_len k23) pT)))))) (by kernel_rfl)
            · refine adv (ok X) 3 [.b false] (pA k18 pT) (by kernel_rfl) ?_
              rcases iteE h with ⟨k24, h⟩ | ⟨k24, h⟩
              · obtain ⟨v19, k25, h⟩ := bindE h
                obtain ⟨v20, k26, h⟩ := bindE h
                obtain ⟨v21, k27, h⟩ := bindE h
                obtain ⟨v22, k28, h⟩ := bindE h
                obtain rfl := retE h
                exact fin (ok X) 4 [.b true, .o [0, 1, 2, 3, 4, 5, 7, 8, 11, 6, 9, 10, 12, 13], .l (List.map e_str v19), .sb (r_r02_exprWords v20) (o_r02_exprWords v20), .l (List.map e_str v21), .l (List.map e_str v22)] (pA k24 (pA (apm (L := x1.2) (M := [(ByteArray.mk #[115, 101, 110, 100]), v1.Name, (ByteArray.mk #[46]), v1.Tag, (ByteArray.mk #[40])]) e_str_len k25) (pA (m_r02_exprWords (X := X) k26) (pA (apm (L := v19) (M := v20) e_str_len k27) (pA (apm (L := v21) (M := [(ByteArray.mk #[41]), (ByteArray.mk #[59])]) e_str_len k28) pT))))) (by kernel_rfl)
              · refine adv (ok X) 3 [.b false] (pA k24 pT) (by kernel_rfl) ?_
                rcases iteE h with ⟨k29, h⟩ | ⟨k29, h⟩
                · obtain ⟨v23, k30, h⟩ := bindE h
                  refine adv (ok X) 6 [.b true, .l (List.map e_str v23)] (pA k29 (pA (apm (L := x1.2) (M := [(ByteArray.mk #[114, 101, 99, 118]), v1.Name, (ByteArray.mk #[123])]) e_str_len k30) pT)) (by kernel_rfl) ?_
                  refine lp (ok X) (r02_stmtWords_l3 (r02_stmtWordsN n) (r02_blockN n) v1) (fun (x3 : (Int × (List ByteArray))) => ⟨143, 0, [(0, [xL (List.map e_r02_Stmt a0)]), (3, [xR 0]), (4, [xI x1.1]), (5, [xP 1 0]), (6, [xI x3.1])], [oR true 9 1 (List.map e_str x3.2), oB 30 (bs (f_r02_Stmt v1))]⟩) (fun (j3 : (List ByteArray)) => ⟨143, 0, [(0, [xL (List.map e_r02_Stmt a0)]), (3, [xR 0]), (4, [xI x1.1])], [oR true 9 1 (List.map e_str j3)]⟩) R_r02_stmtWords (0, v23) (fun _ => ⟨_, _, _, _, rfl⟩) h (by kernel_rfl) (fun x3 o h => ?_) (fun r' h => ?_) (fun j3 h => ?_)
                  · unfold r02_stmtWords_l3 at h
                    refine adv (ok X) 3 [.i (v1.Arms.length : Int)] (pA (lm e_r02_Arm v1.Arms) pT) (by kernel_rfl) ?_
                    rcases iteE h with ⟨k31, h⟩ | ⟨k31, h⟩
                    · obtain ⟨v24, k32, h⟩ := bindE h
                      obtain ⟨v25, k33, h⟩ := bindE h
                      obtain ⟨v26, k34, h⟩ := bindE h
                      obtain ⟨v27, k35, h⟩ := bindE h
                      obtain rfl := retE h
                      exact fin (ok X) 7 [.b true, .o [0, 1, 2, 3, 4, 5, 6, 7, 8, 9, 10, 11, 12, 13, 15, 16, 17, 18, 19, 20, 14, 21, 22, 23], .e (f_r02_Arm v24), .e (f_r02_Arm v24), .e (f_r02_Arm v24), .l (List.map e_str v25), .c (r_r02_block v26), .l (List.map e_str v27)] (pA k31 (pA (ixr e_r02_Arm_eq k32) (pA (ixr e_r02_Arm_eq k32) (pA (ixr e_r02_Arm_eq k32) (pA (apm (L := x3.2) (M := [v24.Tag, (ByteArray.mk #[40]), v24.Var, (ByteArray.mk #[41])]) e_str_len k33) (pA (ih_r02_block _ _ k34) (pA (apm (L := v25) (M := v26) e_str_len k35) pT))))))) (by kernel_rfl)
                    · obtain rfl := retE h
                      exact fin (ok X) 2 [.b false] (pA k31 pT) (by kernel_rfl)
                  · cases h
                  · obtain ⟨v28, k36, h⟩ := bindE h
                    obtain rfl := retE h
                    exact fin (ok X) 3 [.l (List.map e_str v28)] (pA (apm (L := j3) (M := [(ByteArray.mk #[125])]) e_str_len k36) pT) (by kernel_rfl)
                · refine adv (ok X) 3 [.b false] (pA k29 pT) (by kernel_rfl) ?_
                  rcases iteE h with ⟨k37, h⟩ | ⟨k37, h⟩
                  · obtain ⟨v29, k38, h⟩ := bindE h
                    obtain ⟨v30, k39, h⟩ := bindE h
                    obtain ⟨v31, k40, h⟩ := bindE h
                    obtain ⟨v32, k41, h⟩ := bindE h
                    obtain rfl := retE h
                    exact fin (ok X) 4 [.b true, .o [0, 1, 3, 4, 7, 2, 5, 6, 8, 9], .l (List.map e_str v29), .c (r_r02_condWords v30), .l (List.map e_str v31), .l (List.map e_str v32)] (pA k37 (pA (apm (L := x1.2) (M := [(ByteArray.mk #[97, 115, 115, 101, 114, 116])]) e_str_len k38) (pA (m_r02_condWords (X := X) k39) (pA (apm (L := v29) (M := v30) e_str_len k40) (pA (apm (L := v31) (M := [(ByteArray.mk #[59])]) e_str_len k41) pT))))) (by kernel_rfl)
                  · refine adv (ok X) 3 [.b false] (pA k37 pT) (by kernel_rfl) ?_
                    rcases iteE h with ⟨k42, h⟩ | ⟨k42, h⟩
                    · obtain ⟨v33, k43, h⟩ := bindE h
                      obtain rfl := retE h
                      exact fin (ok X) 4 [.b true, .l (List.map e_str v33)] (pA k42 (pA (apm (L := x1.2) (M := [(ByteArray.mk #[105, 110, 112, 117, 116]), v1.Name, (ByteArray.mk #[59])]) e_str_len k43) pT)) (by kernel_rfl)
                    · obtain rfl := retE h
                      exact fin (ok X) 4 [.b false] (pA k42 pT) (by kernel_rfl)
      · obtain rfl := retE h
        exact fin (ok X) 1 [] pT (by kernel_rfl)
    · obtain rfl := retE h
      exact fin (ok X) 2 [.b false] (pA k1 pT) (by kernel_rfl)
  · cases h
  · obtain rfl := retE h
    exact fin (ok X) 3 [] pT (by kernel_rfl)

theorem s_r02_block {n : Nat} (ih_r02_stmtWords : ∀ (a0 : (List r02_Stmt)) (r : (List ByteArray)), r02_stmtWordsN n a0 = some r → Cv Tryz.prog (GX X) 18 [xL (List.map e_r02_Stmt a0)] (r_r02_stmtWords r)) (ih_r02_block : ∀ (a0 : (List r02_Stmt)) (r : (List ByteArray)), r02_blockN n a0 = some r → Cv Tryz.prog (GX X) 44 [xL (List.map e_r02_Stmt a0)] (r_r02_block r)) (a0 : (List r02_Stmt)) (r : (List ByteArray)) (h : r02_blockN (n + 1) a0 = some r) : Cv Tryz.prog (GX X) 44 [xL (List.map e_r02_Stmt a0)] (r_r02_block r) := by
  refine Cs.toV (?_ : Cs Tryz.prog (GX X) 44 [xL (List.map e_r02_Stmt a0)] [] (r_r02_block r) (o_r02_block r)) (by kernel_rfl)
  refine fnT (cx := cx X) Tryz.f44 Tryz.call44 Tryz.func44 (by kernel_rfl) ?_
  rw [r02_blockN] at h
  obtain ⟨v1, k1, h⟩ := bindE h
  obtain ⟨v2, k2, h⟩ := bindE h
  obtain ⟨v3, k3, h⟩ := bindE h
  obtain rfl := retE h
  exact fin (ok X) 5 [.own, .c (r_r02_stmtWords v1), .l (List.map e_str v2), .l (List.map e_str v3)] (pA (ih_r02_stmtWords _ _ k1) (pA (apm (L := [(ByteArray.mk #[123])]) (M := v1) e_str_len k2) (pA (apm (L := v2) (M := [(ByteArray.mk #[125])]) e_str_len k3) pT))) (by kernel_rfl)

theorem all_r02_stmtWords : ∀ n : Nat, (∀ (a0 : (List r02_Stmt)) (r : (List ByteArray)), r02_stmtWordsN n a0 = some r → Cv Tryz.prog (GX X) 18 [xL (List.map e_r02_Stmt a0)] (r_r02_stmtWords r)) ∧ (∀ (a0 : (List r02_Stmt)) (r : (List ByteArray)), r02_blockN n a0 = some r → Cv Tryz.prog (GX X) 44 [xL (List.map e_r02_Stmt a0)] (r_r02_block r))
  | 0 => ⟨(fun _ _ h => by rw [r02_stmtWordsN] at h; cases h), (fun _ _ h => by rw [r02_blockN] at h; cases h)⟩
  | n + 1 => by
    have ih := all_r02_stmtWords n
    exact ⟨s_r02_stmtWords ih.1 ih.2, s_r02_block ih.1 ih.2⟩

theorem m_r02_stmtWords {a0 : (List r02_Stmt)} {r : (List ByteArray)} (h : r02_stmtWords a0 = some r) : Cv Tryz.prog (GX X) 18 [xL (List.map e_r02_Stmt a0)] (r_r02_stmtWords r) := by
  obtain ⟨n, hn⟩ := unfE h
  exact (all_r02_stmtWords n).1 _ _ hn

theorem m_r02_block {a0 : (List r02_Stmt)} {r : (List ByteArray)} (h : r02_block a0 = some r) : Cv Tryz.prog (GX X) 44 [xL (List.map e_r02_Stmt a0)] (r_r02_block r) := by
  obtain ⟨n, hn⟩ := unfE h
  exact (all_r02_stmtWords n).2 _ _ hn

theorem m_r02_Words {a0 : r02_System} {r : ((List ByteArray) × Int)} (h : r02_Words a0 = some r) : Cv Tryz.prog (GX X) 7 [.agg (bs (e_r02_System a0))] (r_r02_Words r) := by
  refine Cs.toV (?_ : Cs Tryz.prog (GX X) 7 [.agg (bs (e_r02_System a0))] [] (r_r02_Words r) (o_r02_Words r)) (by kernel_rfl)
  refine fnT (cx := cx X) Tryz.f7 Tryz.call7 Tryz.func7 (by kernel_rfl) ?_
  unfold r02_Words at h
  obtain ⟨v1, k1, h⟩ := bindE h
  refine adv (ok X) 5 [.c (r_r02_Right v1)] (pA (m_r02_Right (X := X) k1) pT) (by kernel_rfl) ?_
  rcases iteE h with ⟨k2, h⟩ | ⟨k2, h⟩
  · obtain rfl := retE h
    exact fin (ok X) 4 [.b true] (pA k2 pT) (by kernel_rfl)
  · refine adv (ok X) 5 [.b false] (pA k2 pT) (by kernel_rfl) ?_
    refine lp (ok X) (r02_Words_l1 a0) (fun (x1 : Int) => ⟨188, 0, [(1, [xP 0 0]), (4, [xI x1])], [oB 38 (bs (e_r02_System a0))]⟩) (fun (j1 : Unit) => ⟨188, 0, [(1, [xP 0 0])], [oB 38 (bs (e_r02_System a0))]⟩) R_r02_Words 0 (fun _ => ⟨_, _, _, _, rfl⟩) h (by kernel_rfl) (fun x1 o h => ?_) (fun r' h => ?_) (fun j1 h => ?_)
    · unfold r02_Words_l1 at h
      refine adv (ok X) 3 [.i (a0.Procs.length : Int)] (pA (lm e_r02_Proc a0.Procs) pT) (by kernel_rfl) ?_
      rcases iteE h with ⟨k3, h⟩ | ⟨k3, h⟩
      · obtain ⟨v2, k4, h⟩ := bindE h
        obtain ⟨v3, k5, h⟩ := bindE h
        refine adv (ok X) 7 [.b true, .e (e_r02_Proc v2), .c (r_r02_blocks v3)] (pA k3 (pA (ixm e_r02_Proc k4) (pA (m_r02_blocks (X := X) k5) pT))) (by kernel_rfl) ?_
        refine jn (ok X) 1 (fun (j2 : Bool) => ⟨188, 0, [(1, [xP 0 0]), (4, [xI x1]), (42, [xB j2])], [oB 38 (bs (e_r02_System a0))]⟩) h (fun j2 h => ?_) (fun j2 h => ?_)
        · rcases iteE h with ⟨k6, h⟩ | ⟨k6, h⟩
          · obtain rfl := retE h
            exact fin (ok X) 1 [.b true, .b true, .b true] (pA k6 (pA k6 (pA k6 pT))) (by kernel_rfl)
          · obtain rfl := retE h
            exact fin (ok X) 1 [.b false, .b false, .b false] (pA k6 (pA k6 (pA k6 pT))) (by kernel_rfl)
        · rcases iteE h with ⟨k7, h⟩ | ⟨k7, h⟩
          · obtain rfl := retE h
            exact fin (ok X) 4 [.b true] (pA k7 pT) (by kernel_rfl)
          · obtain rfl := retE h
            exact fin (ok X) 4 [.b false] (pA k7 pT) (by kernel_rfl)
      · obtain rfl := retE h
        exact fin (ok X) 2 [.b false] (pA k3 pT) (by kernel_rfl)
    · obtain rfl := retE h
      kernel_rfl
    · refine adv (ok X) 5 [] pT (by kernel_rfl) ?_
      refine lp (ok X) (r02_Words_l3 a0) (fun (x3 : (Int × (List ByteArray))) => ⟨188, 0, [(1, [xP 0 0]), (7, [xR 1]), (8, [xI x3.1])], [oB 38 (bs (e_r02_System a0)), oR true 9 1 (List.map e_str x3.2)]⟩) (fun (j3 : (List ByteArray)) => ⟨188, 0, [(1, [xP 0 0]), (7, [xR 1])], [oB 38 (bs (e_r02_System a0)), oR true 9 1 (List.map e_str j3)]⟩) R_r02_Words (0, []) (fun _ => ⟨_, _, _, _, rfl⟩) h (by kernel_rfl) (fun x3 o h => ?_) (fun r' h => ?_) (fun j3 h => ?_)
      · unfold r02_Words_l3 at h
        refine adv (ok X) 3 [.i (a0.Chans.length : Int)] (pA (lm e_r02_Chan a0.Chans) pT) (by kernel_rfl) ?_
        rcases iteE h with ⟨k8, h⟩ | ⟨k8, h⟩
        · obtain ⟨v4, k9, h⟩ := bindE h
          obtain ⟨v5, k10, h⟩ := bindE h
          obtain ⟨v6, k11, h⟩ := bindE h
          obtain ⟨v7, k12, h⟩ := bindE h
          refine adv (ok X) 11 [.b true, .e (e_r02_Chan v4), .o [0, 1, 2, 3, 4, 5, 6, 7, 8, 9, 10, 11, 12, 13, 14, 15, 16, 17], .e [.str v5], .c (r_r02_digits v6), .l (List.map e_str v7)] (pA k8 (pA (ixm e_r02_Chan k9) (pA (ixm e_str k10) (pA (m_r02_digits (X := X) k11) (pA (apm (L := x3.2) (M := [(ByteArray.mk #[99, 104, 97, 110]), v4.Name, v5, v6, (ByteArray.mk #[102, 114, 111, 109]), v4.From, (ByteArray.mk #[116, 111]), v4.To, (ByteArray.mk #[123])]) e_str_len k12) pT))))) (by kernel_rfl) ?_
          refine lp (ok X) (r02_Words_l4 v4) (fun (x4 : (Int × (List ByteArray))) => ⟨188, 0, [(1, [xP 0 0]), (7, [xR 1]), (8, [xI x3.1]), (9, [xP 2 0]), (10, [xI x4.1])], [oB 38 (bs (e_r02_System a0)), oR true 9 1 (List.map e_str x4.2), oB 69 (bs (e_r02_Chan v4))]⟩) (fun (j4 : (List ByteArray)) => ⟨188, 0, [(1, [xP 0 0]), (7, [xR 1]), (8, [xI x3.1])], [oB 38 (bs (e_r02_System a0)), oR true 9 1 (List.map e_str j4)]⟩) R_r02_Words (0, v7) (fun _ => ⟨_, _, _, _, rfl⟩) h (by kernel_rfl) (fun x4 o h => ?_) (fun r' h => ?_) (fun j4 h => ?_)
          · unfold r02_Words_l4 at h
            refine adv (ok X) 3 [.i (v4.Tags.length : Int)] (pA (lm e_str v4.Tags) pT) (by kernel_rfl) ?_
            rcases iteE h with ⟨k13, h⟩ | ⟨k13, h⟩
            · refine adv (ok X) 3 [.b true] (pA k13 pT) (by kernel_rfl) ?_
              refine jn (ok X) 1 (fun (j5 : (List ByteArray)) => ⟨188, 0, [(1, [xP 0 0]), (7, [xR 1]), (8, [xI x3.1]), (9, [xP 2 0]), (10, [xI x4.1])], [oB 38 (bs (e_r02_System a0)), oR true 9 1 (List.map e_str j5), oB 69 (bs (e_r02_Chan v4))]⟩) h (fun j5 h => ?_) (fun j5 h => ?_)
              · rcases iteE h with ⟨k14, h⟩ | ⟨k14, h⟩
                · obtain ⟨v8, k15, h⟩ := bindE h
                  obtain ⟨v9, k16, h⟩ := bindE h
                  obtain ⟨v10, k17, h⟩ := bindE h
                  obtain rfl := retE h
                  exact fin (ok X) 8 [.b true, .l (List.map e_str v8), .e [.str v9], .l (List.map e_str v10)] (pA k14 (pA (apm (L := x4.2) (M := [(ByteArray.mk #[44])]) e_str_len k15) (pA (ixm e_str k16) (pA (apm (L := v8) (M := [v9]) e_str_len k17) pT)))) (by kernel_rfl)
                · obtain ⟨v11, k18, h⟩ := bindE h
                  obtain ⟨v12, k19, h⟩ := bindE h
                  obtain rfl := retE h
                  exact fin (ok X) 8 [.b false, .e [.str v11], .l (List.map e_str v12)] (pA k14 (pA (ixm e_str k18) (pA (apm (L := x4.2) (M := [v11]) e_str_len k19) pT))) (by kernel_rfl)
              · obtain rfl := retE h
                exact fin (ok X) 1 [] pT (by kernel_rfl)
            · obtain rfl := retE h
              exact fin (ok X) 2 [.b false] (pA k13 pT) (by kernel_rfl)
          · cases h
          · obtain ⟨v13, k20, h⟩ := bindE h
            obtain rfl := retE h
            exact fin (ok X) 3 [.l (List.map e_str v13)] (pA (apm (L := j4) (M := [(ByteArray.mk #[125]), (ByteArray.mk #[59])]) e_str_len k20) pT) (by kernel_rfl)
        · obtain rfl := retE h
          exact fin (ok X) 2 [.b false] (pA k8 pT) (by kernel_rfl)
      · cases h
      · refine adv (ok X) 3 [] pT (by kernel_rfl) ?_
        refine lp (ok X) (r02_Words_l6 a0) (fun (x6 : (Int × (List ByteArray))) => ⟨188, 0, [(1, [xP 0 0]), (7, [xR 1]), (11, [xI x6.1])], [oB 38 (bs (e_r02_System a0)), oR true 9 1 (List.map e_str x6.2)]⟩) (fun (j6 : (List ByteArray)) => ⟨188, 0, [(1, [xP 0 0]), (7, [xR 1])], [oB 38 (bs (e_r02_System a0)), oR true 9 1 (List.map e_str j6)]⟩) R_r02_Words (0, j3) (fun _ => ⟨_, _, _, _, rfl⟩) h (by kernel_rfl) (fun x6 o h => ?_) (fun r' h => ?_) (fun j6 h => ?_)
        · unfold r02_Words_l6 at h
          refine adv (ok X) 3 [.i (a0.Rules.length : Int)] (pA (lm e_r02_Rule a0.Rules) pT) (by kernel_rfl) ?_
          rcases iteE h with ⟨k21, h⟩ | ⟨k21, h⟩
          · obtain ⟨v14, k22, h⟩ := bindE h
            obtain ⟨v15, k23, h⟩ := bindE h
            refine adv (ok X) 9 [.b true, .e (e_r02_Rule v14), .l (List.map e_str v15)] (pA k21 (pA (ixm e_r02_Rule k22) (pA (apm (L := x6.2) (M := [(ByteArray.mk #[114, 117, 108, 101]), v14.Chan, (ByteArray.mk #[123])]) e_str_len k23) pT))) (by kernel_rfl) ?_
            refine lp (ok X) (r02_Words_l7 a0 x6) (fun (x7 : (Int × (List ByteArray))) => ⟨188, 0, [(1, [xP 0 0]), (7, [xR 1]), (11, [xI x6.1]), (12, [xI x7.1])], [oB 38 (bs (e_r02_System a0)), oR true 9 1 (List.map e_str x7.2)]⟩) (fun (j7 : (List ByteArray)) => ⟨188, 0, [(1, [xP 0 0]), (7, [xR 1]), (11, [xI x6.1])], [oB 38 (bs (e_r02_System a0)), oR true 9 1 (List.map e_str j7)]⟩) R_r02_Words (0, v15) (fun _ => ⟨_, _, _, _, rfl⟩) h (by kernel_rfl) (fun x7 o h => ?_) (fun r' h => ?_) (fun j7 h => ?_)
            · unfold r02_Words_l7 at h
              obtain ⟨v16, k24, h⟩ := bindE h
              refine adv (ok X) 3 [.e (e_r02_Rule v16), .i (v16.Moves.length : Int)] (pA (ixm e_r02_Rule k24) (pA (lm e_r02_Move v16.Moves) pT)) (by kernel_rfl) ?_
              rcases iteE h with ⟨k25, h⟩ | ⟨k25, h⟩
              · obtain ⟨v17, k26, h⟩ := bindE h
                obtain ⟨v18, k27, h⟩ := bindE h
                obtain ⟨v19, k28, h⟩ := bindE h
                obtain ⟨v20, k29, h⟩ := bindE h
                obtain ⟨v21, k30, h⟩ := bindE h
                obtain rfl := retE h
                exact fin (ok X) 9 [.b true, .e (e_r02_Rule v17), .e (e_r02_Move v18), .o [0, 1, 2, 3, 4, 5, 6, 7, 8, 9, 10, 11], .c (r_r02_digits v19), .c (r_r02_digits v20), .l (List.map e_str v21)] (pA k25 (pA (ixm e_r02_Rule k26) (pA (ixm e_r02_Move k27) (pA (m_r02_digits (X := X) k28) (pA (m_r02_digits (X := X) k29) (pA (apm (L := x7.2) (M := [v19, v18.Tag, v20, (ByteArray.mk #[59])]) e_str_len k30) pT)))))) (by kernel_rfl)
              · obtain rfl := retE h
                exact fin (ok X) 2 [.b false] (pA k25 pT) (by kernel_rfl)
            · cases h
            · obtain ⟨v22, k31, h⟩ := bindE h
              obtain rfl := retE h
              exact fin (ok X) 3 [.l (List.map e_str v22)] (pA (apm (L := j7) (M := [(ByteArray.mk #[125])]) e_str_len k31) pT) (by kernel_rfl)
          · obtain rfl := retE h
            exact fin (ok X) 2 [.b false] (pA k21 pT) (by kernel_rfl)
        · cases h
        · refine adv (ok X) 3 [] pT (by kernel_rfl) ?_
          refine lp (ok X) (r02_Words_l8 a0) (fun (x8 : (Int × (List ByteArray))) => ⟨188, 0, [(1, [xP 0 0]), (7, [xR 1]), (14, [xI x8.1])], [oB 38 (bs (e_r02_System a0)), oR true 9 1 (List.map e_str x8.2)]⟩) (fun (j8 : (List ByteArray)) => ⟨188, 0, [(7, [xR 1])], [none, oR true 9 1 (List.map e_str j8)]⟩) R_r02_Words (0, j6) (fun _ => ⟨_, _, _, _, rfl⟩) h (by kernel_rfl) (fun x8 o h => ?_) (fun r' h => ?_) (fun j8 h => ?_)
          · unfold r02_Words_l8 at h
            refine adv (ok X) 3 [.i (a0.Procs.length : Int)] (pA (lm e_r02_Proc a0.Procs) pT) (by kernel_rfl) ?_
            rcases iteE h with ⟨k32, h⟩ | ⟨k32, h⟩
            · obtain ⟨v23, k33, h⟩ := bindE h
              obtain ⟨v24, k34, h⟩ := bindE h
              refine adv (ok X) 11 [.b true, .e (e_r02_Proc v23), .l (List.map e_str v24)] (pA k32 (pA (ixm e_r02_Proc k33) (pA (apm (L := x8.2) (M := [(ByteArray.mk #[112, 114, 111, 99]), v23.Name, (ByteArray.mk #[123])]) e_str_len k34) pT))) (by kernel_rfl) ?_
              refine lp (ok X) (r02_Words_l9 v23) (fun (x9 : (Int × (List ByteArray))) => ⟨188, 0, [(1, [xP 0 0]), (7, [xR 1]), (14, [xI x8.1]), (15, [xP 2 0]), (16, [xI x9.1])], [oB 38 (bs (e_r02_System a0)), oR true 9 1 (List.map e_str x9.2), oB 33 (bs (e_r02_Proc v23))]⟩) (fun (j9 : (List ByteArray)) => ⟨188, 0, [(1, [xP 0 0]), (7, [xR 1]), (14, [xI x8.1]), (15, [xP 2 0])], [oB 38 (bs (e_r02_System a0)), oR true 9 1 (List.map e_str j9), oB 33 (bs (e_r02_Proc v23))]⟩) R_r02_Words (0, v24) (fun _ => ⟨_, _, _, _, rfl⟩) h (by kernel_rfl) (fun x9 o h => ?_) (fun r' h => ?_) (fun j9 h => ?_)
              · unfold r02_Words_l9 at h
                refine adv (ok X) 3 [.i (v23.Vars.length : Int)] (pA (lm e_str v23.Vars) pT) (by kernel_rfl) ?_
                rcases iteE h with ⟨k35, h⟩ | ⟨k35, h⟩
                · obtain ⟨v25, k36, h⟩ := bindE h
                  obtain ⟨v26, k37, h⟩ := bindE h
                  obtain rfl := retE h
                  exact fin (ok X) 7 [.b true, .e [.str v25], .l (List.map e_str v26)] (pA k35 (pA (ixm e_str k36) (pA (apm (L := x9.2) (M := [(ByteArray.mk #[118, 97, 114]), v25, (ByteArray.mk #[59])]) e_str_len k37) pT))) (by kernel_rfl)
                · obtain rfl := retE h
                  exact fin (ok X) 2 [.b false] (pA k35 pT) (by kernel_rfl)
              · cases h
              · obtain ⟨v27, k38, h⟩ := bindE h
                obtain ⟨v28, k39, h⟩ := bindE h
                obtain ⟨v29, k40, h⟩ := bindE h
                obtain rfl := retE h
                exact fin (ok X) 3 [.c (r_r02_stmtWords v27), .l (List.map e_str v28), .l (List.map e_str v29)] (pA (m_r02_stmtWords (X := X) k38) (pA (apm (L := j9) (M := v27) e_str_len k39) (pA (apm (L := v28) (M := [(ByteArray.mk #[125])]) e_str_len k40) pT))) (by kernel_rfl)
            · obtain rfl := retE h
              exact fin (ok X) 2 [.b false] (pA k32 pT) (by kernel_rfl)
          · cases h
          · refine adv (ok X) 3 [.i (j8.length : Int)] (pA (lm e_str j8) pT) (by kernel_rfl) ?_
            rcases iteE h with ⟨k41, h⟩ | ⟨k41, h⟩
            · obtain rfl := retE h
              exact fin (ok X) 4 [.b true] (pA k41 pT) (by kernel_rfl)
            · obtain rfl := retE h
              exact fin (ok X) 5 [.b false] (pA k41 pT) (by kernel_rfl)

theorem m_ast_text {a0 : ast_System} {r : ByteArray × Int} (h : ast_text a0 = some r) : Cv Tryz.prog (GX X) 9 [.agg (bs (e_ast_System a0))] (r_ast_text r) := by
  unfold ast_text at h
  obtain ⟨q, k, h⟩ := bindE h
  split at h
  · rename_i hle
    obtain rfl := retE h
    exact hand_text hle (m_ast_Words (X := X) k)
  · cases h

theorem m_l02_texts {r : Bool} (h : l02_texts = some r) : Cv Tryz.prog (GX X) 8 [] (r_l02_texts r) := by
  refine Cs.toV (?_ : Cs Tryz.prog (GX X) 8 [] [] (r_l02_texts r) (o_l02_texts r)) (by kernel_rfl)
  refine fnT (cx := cx X) Tryz.f8 Tryz.call8 Tryz.func8 (by kernel_rfl) ?_
  unfold l02_texts at h
  obtain ⟨v1, k1, h⟩ := bindE h
  obtain ⟨v2, k2, h⟩ := bindE h
  refine adv (ok X) 9 [.bl (List.map e_r02_Expr [(r02_Expr.mk 2 0 (ByteArray.mk #[97]) []), (r02_Expr.mk 1 1 (ByteArray.mk #[]) [])]), .bl (List.map e_r02_Expr [(r02_Expr.mk 4 0 (ByteArray.mk #[]) [(r02_Expr.mk 2 0 (ByteArray.mk #[97]) []), (r02_Expr.mk 1 1 (ByteArray.mk #[]) [])]), (r02_Expr.mk 1 2 (ByteArray.mk #[]) [])]), .bl (List.map e_r02_Stmt [(r02_Stmt.mk 1 (ByteArray.mk #[120]) (ByteArray.mk #[]) (r02_Expr.mk 6 0 (ByteArray.mk #[]) [(r02_Expr.mk 4 0 (ByteArray.mk #[]) [(r02_Expr.mk 2 0 (ByteArray.mk #[97]) []), (r02_Expr.mk 1 1 (ByteArray.mk #[]) [])]), (r02_Expr.mk 1 2 (ByteArray.mk #[]) [])]) (r02_Cond.mk 0 (r02_Expr.mk 0 0 (ByteArray.mk #[]) []) (r02_Expr.mk 0 0 (ByteArray.mk #[]) [])) [] [] [])]), .c (r_l02_System v1), .c (r_ast_text v2)] (pA (blc (e := e_r02_Expr) (x := (r02_Expr.mk 2 0 (ByteArray.mk #[97]) [])) (e_r02_Expr_eq _).symm (blc (e := e_r02_Expr) (x := (r02_Expr.mk 1 1 (ByteArray.mk #[]) [])) (e_r02_Expr_eq _).symm (bl0 e_r02_Expr))) (pA (blc (e := e_r02_Expr) (x := (r02_Expr.mk 4 0 (ByteArray.mk #[]) [(r02_Expr.mk 2 0 (ByteArray.mk #[97]) []), (r02_Expr.mk 1 1 (ByteArray.mk #[]) [])])) (e_r02_Expr_eq _).symm (blc (e := e_r02_Expr) (x := (r02_Expr.mk 1 2 (ByteArray.mk #[]) [])) (e_r02_Expr_eq _).symm (bl0 e_r02_Expr))) (pA (blc (e := e_r02_Stmt) (x := (r02_Stmt.mk 1 (ByteArray.mk #[120]) (ByteArray.mk #[]) (r02_Expr.mk 6 0 (ByteArray.mk #[]) [(r02_Expr.mk 4 0 (ByteArray.mk #[]) [(r02_Expr.mk 2 0 (ByteArray.mk #[97]) []), (r02_Expr.mk 1 1 (ByteArray.mk #[]) [])]), (r02_Expr.mk 1 2 (ByteArray.mk #[]) [])]) (r02_Cond.mk 0 (r02_Expr.mk 0 0 (ByteArray.mk #[]) []) (r02_Expr.mk 0 0 (ByteArray.mk #[]) [])) [] [] [])) (e_r02_Stmt_eq _).symm (bl0 e_r02_Stmt)) (pA (m_l02_System (X := X) k1) (pA (m_ast_text (X := X) k2) pT))))) (by kernel_rfl) ?_
  rcases iteE h with ⟨k3, h⟩ | ⟨k3, h⟩
  · obtain rfl := retE h
    exact fin (ok X) 2 [.b true, .b true, .b true] (pA k3 (pA k3 (pA k3 pT))) (by kernel_rfl)
  · obtain rfl := retE h
    exact fin (ok X) 2 [.b false, .b false, .b false] (pA k3 (pA k3 (pA k3 pT))) (by kernel_rfl)
end Go.Proofs.YtaaihamelknhdaaGreatDoor.Abs

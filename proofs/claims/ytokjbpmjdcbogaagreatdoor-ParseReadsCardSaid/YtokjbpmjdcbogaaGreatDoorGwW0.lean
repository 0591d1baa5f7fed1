/- Gw: the functions are these. -/
import Derived.Test.YtokjbpmjdcbogaaGreatDoorGwF
namespace Go.Proofs.YtokjbpmjdcbogaaGreatDoor.Abs
open Go Go.RowKit
set_option linter.unusedVariables false
set_option maxRecDepth 100000
set_option maxHeartbeats 4000000
variable {X : EV}
theorem m_lexnum {a0 : ByteArray} {r : Int × Int} (h : lexnum a0 = some r) : Cv Tryz.prog (GX X) 94 [xS a0] (r_lexnum r) := hand_lexnum h
theorem m_ibyte {a0 : ByteArray} {a1 : Int} {r : Int} (h : ibyte a0 a1 = some r) : Cv Tryz.prog (GX X) 114 [xS a0, .c (.pv (.int .u8 a1))] (r_ibyte r) := hand_ibyte h
theorem m_lex_letter {a0 : Int} {r : Bool} (h : lex_letter a0 = some r) : Cv Tryz.prog (GX X) 90 [.c (.pv (.int .u8 a0))] (r_lex_letter r) := by
  refine Cs.toV (?_ : Cs Tryz.prog (GX X) 90 [.c (.pv (.int .u8 a0))] [] (r_lex_letter r) (o_lex_letter r)) (by kernel_rfl)
  refine fnT (cx := cx X) Tryz.f90 Tryz.call90 Tryz.func90 (by kernel_rfl) ?_
  unfold lex_letter at h
  rcases iteE h with ⟨k1, h⟩ | ⟨k1, h⟩
  · obtain rfl := retE h
    exact fin (ok X) 5 [.b true, .b true, .b true] (pA k1 (pA k1 (pA k1 pT))) (by kernel_rfl)
  · obtain rfl := retE h
    exact fin (ok X) 5 [.b false, .b false, .b false] (pA k1 (pA k1 (pA k1 pT))) (by kernel_rfl)

theorem m_lex_digit {a0 : Int} {r : Bool} (h : lex_digit a0 = some r) : Cv Tryz.prog (GX X) 93 [.c (.pv (.int .u8 a0))] (r_lex_digit r) := by
  refine Cs.toV (?_ : Cs Tryz.prog (GX X) 93 [.c (.pv (.int .u8 a0))] [] (r_lex_digit r) (o_lex_digit r)) (by kernel_rfl)
  refine fnT (cx := cx X) Tryz.f93 Tryz.call93 Tryz.func93 (by kernel_rfl) ?_
  unfold lex_digit at h
  rcases iteE h with ⟨k1, h⟩ | ⟨k1, h⟩
  · obtain rfl := retE h
    exact fin (ok X) 5 [.b true, .b true, .b true] (pA k1 (pA k1 (pA k1 pT))) (by kernel_rfl)
  · obtain rfl := retE h
    exact fin (ok X) 5 [.b false, .b false, .b false] (pA k1 (pA k1 (pA k1 pT))) (by kernel_rfl)

theorem m_lex_run {a0 : ByteArray} {r : Int} (h : lex_run a0 = some r) : Cv Tryz.prog (GX X) 92 [xS a0] (r_lex_run r) := by
  refine Cs.toV (?_ : Cs Tryz.prog (GX X) 92 [xS a0] [] (r_lex_run r) (o_lex_run r)) (by kernel_rfl)
  refine fnT (cx := cx X) Tryz.f92 Tryz.call92 Tryz.func92 (by kernel_rfl) ?_
  unfold lex_run at h
  refine adv (ok X) 5 [] pT (by kernel_rfl) ?_
  refine lp (ok X) (lex_run_l1 a0) (fun (x1 : Int) => ⟨23, 0, [(0, [xS a0]), (3, [xI x1])], []⟩) (fun (j1 : Int) => ⟨23, 0, [(3, [xI j1])], []⟩) R_lex_run 0 (fun _ => ⟨_, _, _, _, rfl⟩) h (by kernel_rfl) (fun x1 o h => ?_) (fun r' h => ?_) (fun j1 h => ?_)
  · unfold lex_run_l1 at h
    refine adv (ok X) 2 [] pT (by kernel_rfl) ?_
    refine jn (ok X) 1 (fun (j2 : Bool) => ⟨23, 0, [(0, [xS a0]), (3, [xI x1]), (19, [xB j2])], []⟩) h (fun j2 h => ?_) (fun j2 h => ?_)
    · rcases iteE h with ⟨k1, h⟩ | ⟨k1, h⟩
      · obtain ⟨v1, k2, h⟩ := bindE h
        obtain ⟨v2, k3, h⟩ := bindE h
        rcases iteE h with ⟨k4, h⟩ | ⟨k4, h⟩
        · obtain rfl := retE h
          exact fin (ok X) 1 [.b true, .b true, .b true, .i v1, .b true, .c (r_lex_letter v2), .b true, .b true, .b true, .b true, .b true, .b true, .b true, .b true] (pA k1 (pA k1 (pA k1 (pA k2 (pA k1 (pA (m_lex_letter (X := X) k3) (pA k1 (pA k4 (pA k4 (pA k4 (pA k4 (pA k1 (pA k4 (pA k1 pT)))))))))))))) (by kernel_rfl)
        · obtain ⟨v3, k5, h⟩ := bindE h
          obtain ⟨v4, k6, h⟩ := bindE h
          obtain rfl := retE h
          exact fin (ok X) 1 [.b true, .b true, .b true, .i v1, .b true, .c (r_lex_letter v2), .b true, .b false, .b false, .b false, .i v3, .b false, .c (r_lex_digit v4), .b true, .b false, .b true] (pA k1 (pA k1 (pA k1 (pA k2 (pA k1 (pA (m_lex_letter (X := X) k3) (pA k1 (pA k4 (pA k4 (pA k4 (pA k5 (pA k4 (pA (m_lex_digit (X := X) k6) (pA k1 (pA k4 (pA k1 pT)))))))))))))))) (by kernel_rfl)
      · obtain rfl := retE h
        exact fin (ok X) 1 [.b false, .b false, .b false, .b false, .b false, .b false, .b false] (pA k1 (pA k1 (pA k1 (pA k1 (pA k1 (pA k1 (pA k1 pT))))))) (by kernel_rfl)
    · rcases iteE h with ⟨k7, h⟩ | ⟨k7, h⟩
      · obtain rfl := retE h
        exact fin (ok X) 5 [.b true] (pA k7 pT) (by kernel_rfl)
      · obtain rfl := retE h
        exact fin (ok X) 2 [.b false] (pA k7 pT) (by kernel_rfl)
  · cases h
  · obtain rfl := retE h
    exact fin (ok X) 3 [] pT (by kernel_rfl)

theorem m_lex_Reserved {a0 : ByteArray} {r : Bool} (h : lex_Reserved a0 = some r) : Cv Tryz.prog (GX X) 111 [xS a0] (r_lex_Reserved r) := by
  refine Cs.toV (?_ : Cs Tryz.prog (GX X) 111 [xS a0] [] (r_lex_Reserved r) (o_lex_Reserved r)) (by kernel_rfl)
  refine fnT (cx := cx X) Tryz.f111 Tryz.call111 Tryz.func111 (by kernel_rfl) ?_
  unfold lex_Reserved at h
  rcases iteE h with ⟨k1, h⟩ | ⟨k1, h⟩
  · obtain rfl := retE h
    exact fin (ok X) 15 [.b true, .b true] (pA k1 (pA k1 pT)) (by kernel_rfl)
  · refine adv (ok X) 12 [.b false] (pA k1 pT) (by kernel_rfl) ?_
    rcases iteE h with ⟨k2, h⟩ | ⟨k2, h⟩
    · obtain rfl := retE h
      exact fin (ok X) 6 [.b true, .b true] (pA k2 (pA k2 pT)) (by kernel_rfl)
    · refine adv (ok X) 3 [.b false] (pA k2 pT) (by kernel_rfl) ?_
      rcases iteE h with ⟨k3, h⟩ | ⟨k3, h⟩
      · obtain rfl := retE h
        exact fin (ok X) 6 [.b true, .b true] (pA k3 (pA k3 pT)) (by kernel_rfl)
      · refine adv (ok X) 3 [.b false] (pA k3 pT) (by kernel_rfl) ?_
        rcases iteE h with ⟨k4, h⟩ | ⟨k4, h⟩
        · obtain rfl := retE h
          exact fin (ok X) 6 [.b true, .b true] (pA k4 (pA k4 pT)) (by kernel_rfl)
        · refine adv (ok X) 3 [.b false] (pA k4 pT) (by kernel_rfl) ?_
          rcases iteE h with ⟨k5, h⟩ | ⟨k5, h⟩
          · obtain rfl := retE h
            exact fin (ok X) 6 [.b true, .b true] (pA k5 (pA k5 pT)) (by kernel_rfl)
          · refine adv (ok X) 3 [.b false] (pA k5 pT) (by kernel_rfl) ?_
            rcases iteE h with ⟨k6, h⟩ | ⟨k6, h⟩
            · obtain rfl := retE h
              exact fin (ok X) 6 [.b true, .b true] (pA k6 (pA k6 pT)) (by kernel_rfl)
            · refine adv (ok X) 3 [.b false] (pA k6 pT) (by kernel_rfl) ?_
              rcases iteE h with ⟨k7, h⟩ | ⟨k7, h⟩
              · obtain rfl := retE h
                exact fin (ok X) 6 [.b true, .b true] (pA k7 (pA k7 pT)) (by kernel_rfl)
              · refine adv (ok X) 2 [.b false] (pA k7 pT) (by kernel_rfl) ?_
                rcases iteE h with ⟨k8, h⟩ | ⟨k8, h⟩
                · obtain rfl := retE h
                  exact fin (ok X) 4 [.b true] (pA k8 pT) (by kernel_rfl)
                · refine adv (ok X) 4 [.b false] (pA k8 pT) (by kernel_rfl) ?_
                  rcases iteE h with ⟨k9, h⟩ | ⟨k9, h⟩
                  · obtain rfl := retE h
                    exact fin (ok X) 6 [.b true, .b true] (pA k9 (pA k9 pT)) (by kernel_rfl)
                  · refine adv (ok X) 3 [.b false] (pA k9 pT) (by kernel_rfl) ?_
                    rcases iteE h with ⟨k10, h⟩ | ⟨k10, h⟩
                    · obtain rfl := retE h
                      exact fin (ok X) 6 [.b true, .b true] (pA k10 (pA k10 pT)) (by kernel_rfl)
                    · refine adv (ok X) 3 [.b false] (pA k10 pT) (by kernel_rfl) ?_
                      rcases iteE h with ⟨k11, h⟩ | ⟨k11, h⟩
                      · obtain rfl := retE h
                        exact fin (ok X) 6 [.b true, .b true] (pA k11 (pA k11 pT)) (by kernel_rfl)
                      · refine adv (ok X) 3 [.b false] (pA k11 pT) (by kernel_rfl) ?_
                        rcases iteE h with ⟨k12, h⟩ | ⟨k12, h⟩
                        · obtain rfl := retE h
                          exact fin (ok X) 6 [.b true, .b true] (pA k12 (pA k12 pT)) (by kernel_rfl)
                        · refine adv (ok X) 3 [.b false] (pA k12 pT) (by kernel_rfl) ?_
                          rcases iteE h with ⟨k13, h⟩ | ⟨k13, h⟩
                          · obtain rfl := retE h
                            exact fin (ok X) 6 [.b true, .b true] (pA k13 (pA k13 pT)) (by kernel_rfl)
                          · refine adv (ok X) 3 [.b false] (pA k13 pT) (by kernel_rfl) ?_
                            rcases iteE h with ⟨k14, h⟩ | ⟨k14, h⟩
                            · obtain rfl := retE h
                              exact fin (ok X) 6 [.b true, .b true] (pA k14 (pA k14 pT)) (by kernel_rfl)
                            · refine adv (ok X) 3 [.b false] (pA k14 pT) (by kernel_rfl) ?_
                              rcases iteE h with ⟨k15, h⟩ | ⟨k15, h⟩
                              · obtain rfl := retE h
                                exact fin (ok X) 6 [.b true, .b true] (pA k15 (pA k15 pT)) (by kernel_rfl)
                              · refine adv (ok X) 2 [.b false] (pA k15 pT) (by kernel_rfl) ?_
                                rcases iteE h with ⟨k16, h⟩ | ⟨k16, h⟩
                                · obtain rfl := retE h
                                  exact fin (ok X) 4 [.b true] (pA k16 pT) (by kernel_rfl)
                                · obtain rfl := retE h
                                  exact fin (ok X) 6 [.b false] (pA k16 pT) (by kernel_rfl)

theorem m_lex_named {a0 : ByteArray} {r : (lex_Token × Int)} (h : lex_named a0 = some r) : Cv Tryz.prog (GX X) 91 [xS a0] (r_lex_named r) := by
  refine Cs.toV (?_ : Cs Tryz.prog (GX X) 91 [xS a0] [] (r_lex_named r) (o_lex_named r)) (by kernel_rfl)
  refine fnT (cx := cx X) Tryz.f91 Tryz.call91 Tryz.func91 (by kernel_rfl) ?_
  unfold lex_named at h
  rcases iteE h with ⟨k1, h⟩ | ⟨k1, h⟩
  · obtain rfl := retE h
    exact fin (ok X) 10 [.b true] (pA k1 pT) (by kernel_rfl)
  · obtain ⟨v1, k2, h⟩ := bindE h
    refine adv (ok X) 9 [.b false, .c (r_lex_Reserved v1)] (pA k1 (pA (m_lex_Reserved (X := X) k2) pT)) (by kernel_rfl) ?_
    rcases iteE h with ⟨k3, h⟩ | ⟨k3, h⟩
    · obtain rfl := retE h
      exact fin (ok X) 4 [.b true] (pA k3 pT) (by kernel_rfl)
    · obtain rfl := retE h
      exact fin (ok X) 6 [.b false] (pA k3 pT) (by kernel_rfl)

theorem m_lex_sign {a0 : ByteArray} {r : Int} (h : lex_sign a0 = some r) : Cv Tryz.prog (GX X) 95 [xS a0] (r_lex_sign r) := by
  refine Cs.toV (?_ : Cs Tryz.prog (GX X) 95 [xS a0] [] (r_lex_sign r) (o_lex_sign r)) (by kernel_rfl)
  refine fnT (cx := cx X) Tryz.f95 Tryz.call95 Tryz.func95 (by kernel_rfl) ?_
  unfold lex_sign at h
  refine adv (ok X) 4 [] pT (by kernel_rfl) ?_
  refine jn (ok X) 1 (fun (j1 : Bool) => ⟨21, 0, [(0, [xS a0]), (16, [xB j1])], []⟩) h (fun j1 h => ?_) (fun j1 h => ?_)
  · rcases iteE h with ⟨k1, h⟩ | ⟨k1, h⟩
    · obtain ⟨v1, k2, h⟩ := bindE h
      rcases iteE h with ⟨k3, h⟩ | ⟨k3, h⟩
      · obtain ⟨v2, k4, h⟩ := bindE h
        obtain ⟨v3, k5, h⟩ := bindE h
        obtain rfl := retE h
        exact fin (ok X) 1 [.b true, .b true, .i v1, .b true, .b true, .b true, .b true, .i v2, .b true, .c (r_ibyte v3), .b true, .b true] (pA k1 (pA k1 (pA k2 (pA k1 (pA k1 (pA k3 (pA k3 (pA k4 (pA k3 (pA (m_ibyte (X := X) k5) (pA k3 (pA k3 pT)))))))))))) (by kernel_rfl)
      · obtain rfl := retE h
        exact fin (ok X) 1 [.b true, .b true, .i v1, .b true, .b true, .b false, .b false, .b false, .b false, .b false] (pA k1 (pA k1 (pA k2 (pA k1 (pA k1 (pA k3 (pA k3 (pA k3 (pA k3 (pA k3 pT)))))))))) (by kernel_rfl)
    · obtain rfl := retE h
      exact fin (ok X) 1 [.b false, .b false, .b false, .b false, .b false, .b false, .b false, .b false, .b false] (pA k1 (pA k1 (pA k1 (pA k1 (pA ff (pA ff (pA ff (pA ff (pA ff pT))))))))) (by kernel_rfl)
  · rcases iteE h with ⟨k6, h⟩ | ⟨k6, h⟩
    · obtain rfl := retE h
      exact fin (ok X) 4 [.b true] (pA k6 pT) (by kernel_rfl)
    · obtain ⟨v4, k7, h⟩ := bindE h
      obtain ⟨v5, k8, h⟩ := bindE h
      refine adv (ok X) 5 [.b false, .i v4, .c (r_ibyte v5)] (pA k6 (pA k7 (pA (m_ibyte (X := X) k8) pT))) (by kernel_rfl) ?_
      rcases iteE h with ⟨k9, h⟩ | ⟨k9, h⟩
      · obtain rfl := retE h
        exact fin (ok X) 4 [.b true] (pA k9 pT) (by kernel_rfl)
      · obtain rfl := retE h
        exact fin (ok X) 5 [.b false] (pA k9 pT) (by kernel_rfl)

theorem m_lex_word {a0 : ByteArray} {r : (lex_Token × Int)} (h : lex_word a0 = some r) : Cv Tryz.prog (GX X) 55 [xS a0] (r_lex_word r) := by
  refine Cs.toV (?_ : Cs Tryz.prog (GX X) 55 [xS a0] [] (r_lex_word r) (o_lex_word r)) (by kernel_rfl)
  refine fnT (cx := cx X) Tryz.f55 Tryz.call55 Tryz.func55 (by kernel_rfl) ?_
  unfold lex_word at h
  obtain ⟨v1, k1, h⟩ := bindE h
  obtain ⟨v2, k2, h⟩ := bindE h
  refine adv (ok X) 6 [.i v1, .c (r_lex_letter v2)] (pA k1 (pA (m_lex_letter (X := X) k2) pT)) (by kernel_rfl) ?_
  rcases iteE h with ⟨k3, h⟩ | ⟨k3, h⟩
  · obtain ⟨v3, k4, h⟩ := bindE h
    obtain ⟨v4, k5, h⟩ := bindE h
    obtain ⟨v5, k6, h⟩ := bindE h
    obtain rfl := retE h
    exact fin (ok X) 4 [.b true, .c (r_lex_run v3), .x [xS v4], .c (r_lex_named v5)] (pA k3 (pA (m_lex_run (X := X) k4) (pA k5 (pA (m_lex_named (X := X) k6) pT)))) (by kernel_rfl)
  · obtain ⟨v6, k7, h⟩ := bindE h
    obtain ⟨v7, k8, h⟩ := bindE h
    refine adv (ok X) 3 [.b false, .i v6, .c (r_lex_digit v7)] (pA k3 (pA k7 (pA (m_lex_digit (X := X) k8) pT))) (by kernel_rfl) ?_
    rcases iteE h with ⟨k9, h⟩ | ⟨k9, h⟩
    · obtain ⟨v8, k10, h⟩ := bindE h
      obtain ⟨v9, k11, h⟩ := bindE h
      obtain ⟨v10, k12, h⟩ := bindE h
      obtain rfl := retE h
      exact fin (ok X) 8 [.b true, .c (r_lex_run v8), .x [xS v9], .c (r_lexnum v10)] (pA k9 (pA (m_lex_run (X := X) k10) (pA k11 (pA (m_lexnum (X := X) k12) pT)))) (by kernel_rfl)
    · obtain ⟨v11, k13, h⟩ := bindE h
      refine adv (ok X) 8 [.b false, .c (r_lex_sign v11)] (pA k9 (pA (m_lex_sign (X := X) k13) pT)) (by kernel_rfl) ?_
      rcases iteE h with ⟨k14, h⟩ | ⟨k14, h⟩
      · obtain rfl := retE h
        exact fin (ok X) 4 [.b true] (pA k14 pT) (by kernel_rfl)
      · obtain ⟨v12, k15, h⟩ := bindE h
        obtain rfl := retE h
        exact fin (ok X) 5 [.b false, .x [xS v12]] (pA k14 (pA k15 pT)) (by kernel_rfl)

theorem m_lex_Lex {a0 : ByteArray} {r : ((List lex_Token) × Int × Int)} (h : lex_Lex a0 = some r) : Cv Tryz.prog (GX X) 19 [xS a0] (r_lex_Lex r) := by
  refine Cs.toV (?_ : Cs Tryz.prog (GX X) 19 [xS a0] [] (r_lex_Lex r) (o_lex_Lex r)) (by kernel_rfl)
  refine fnT (cx := cx X) Tryz.f19 Tryz.call19 Tryz.func19 (by kernel_rfl) ?_
  unfold lex_Lex at h
  refine adv (ok X) 7 [] pT (by kernel_rfl) ?_
  refine lp (ok X) (lex_Lex_l1 a0) (fun (x1 : (Int × (List lex_Token))) => ⟨53, 0, [(0, [xS a0]), (5, [xR 0]), (6, [xI x1.1])], [oR true 140 4 (List.map e_lex_Token x1.2)]⟩) (fun (j1 : (List lex_Token)) => ⟨53, 0, [(0, [xS a0]), (5, [xR 0])], [oR true 140 4 (List.map e_lex_Token j1)]⟩) R_lex_Lex (0, []) (fun _ => ⟨_, _, _, _, rfl⟩) h (by kernel_rfl) (fun x1 o h => ?_) (fun r' h => ?_) (fun j1 h => ?_)
  · unfold lex_Lex_l1 at h
    rcases iteE h with ⟨k1, h⟩ | ⟨k1, h⟩
    · refine adv (ok X) 8 [.b true] (pA k1 pT) (by kernel_rfl) ?_
      refine jn (ok X) 1 (fun (j2 : Bool) => ⟨53, 0, [(0, [xS a0]), (5, [xR 0]), (6, [xI x1.1]), (22, [xB j2])], [oR true 140 4 (List.map e_lex_Token x1.2)]⟩) h (fun j2 h => ?_) (fun j2 h => ?_)
      · obtain ⟨v1, k2, h⟩ := bindE h
        rcases iteE h with ⟨k3, h⟩ | ⟨k3, h⟩
        · obtain rfl := retE h
          exact fin (ok X) 1 [.i v1, .b true, .b true, .b true, .b true, .b true] (pA k2 (pA k3 (pA k3 (pA k3 (pA k3 (pA k3 pT)))))) (by kernel_rfl)
        · obtain ⟨v2, k4, h⟩ := bindE h
          obtain rfl := retE h
          exact fin (ok X) 1 [.i v1, .b false, .b false, .b false, .i v2, .b false, .b false] (pA k2 (pA k3 (pA k3 (pA k3 (pA k4 (pA k3 (pA k3 pT))))))) (by kernel_rfl)
      · rcases iteE h with ⟨k5, h⟩ | ⟨k5, h⟩
        · obtain rfl := retE h
          exact fin (ok X) 4 [.b true] (pA k5 pT) (by kernel_rfl)
        · obtain ⟨v3, k6, h⟩ := bindE h
          obtain ⟨v4, k7, h⟩ := bindE h
          refine adv (ok X) 7 [.b false, .x [xS v3], .c (r_lex_word v4)] (pA k5 (pA k6 (pA (m_lex_word (X := X) k7) pT))) (by kernel_rfl) ?_
          rcases iteE h with ⟨k8, h⟩ | ⟨k8, h⟩
          · obtain rfl := retE h
            exact fin (ok X) 4 [.b true] (pA k8 pT) (by kernel_rfl)
          · obtain ⟨v5, k9, h⟩ := bindE h
            obtain rfl := retE h
            exact fin (ok X) 8 [.b false, .l (List.map e_lex_Token v5)] (pA k8 (pA (apm (L := x1.2) (M := [(lex_Token.mk v4.1.Kind v4.1.Text v4.1.Num x1.1)]) e_lex_Token_len k9) pT)) (by kernel_rfl)
    · obtain rfl := retE h
      exact fin (ok X) 5 [.b false] (pA k1 pT) (by kernel_rfl)
  · obtain rfl := retE h
    kernel_rfl
  · refine adv (ok X) 3 [.i (j1.length : Int)] (pA (lm e_lex_Token j1) pT) (by kernel_rfl) ?_
    rcases iteE h with ⟨k10, h⟩ | ⟨k10, h⟩
    · obtain rfl := retE h
      exact fin (ok X) 4 [.b true] (pA k10 pT) (by kernel_rfl)
    · obtain rfl := retE h
      exact fin (ok X) 5 [.b false] (pA k10 pT) (by kernel_rfl)

theorem m_parse_reader_sees {a0 : parse_reader} {a1 : ByteArray} {r : Bool} (h : parse_reader_sees a0 a1 = some r) : Cs Tryz.prog (GX X) 56 [xP 0 0, xS a1] [oB 71 (bs (e_parse_reader a0))] (r_parse_reader_sees r) (o_parse_reader_sees a0 r) := by
  refine fnT (cx := cx X) Tryz.f56 Tryz.call56 Tryz.func56 (by kernel_rfl) ?_
  unfold parse_reader_sees at h
  rcases iteE h with ⟨k1, h⟩ | ⟨k1, h⟩
  · rcases iteE h with ⟨k2, h⟩ | ⟨k2, h⟩
    · obtain ⟨v1, k3, h⟩ := bindE h
      rcases iteE h with ⟨k4, h⟩ | ⟨k4, h⟩
      · obtain ⟨v2, k5, h⟩ := bindE h
        obtain rfl := retE h
        exact fin (ok X) 5 [.b true, .b true, .b true, .b true, .b true, .i (a0.f_l.length : Int), .b true, .b true, .b true, .b true, .b true, .b true, .b true, .e (e_lex_Token v1), .b true, .b true, .b true, .b true, .b true, .b true, .b true, .b true, .b true, .e (e_lex_Token v2), .b true, .b true, .b true, .b true, .b true] (pA k1 (pA k1 (pA k1 (pA k1 (pA k1 (pA (lm e_lex_Token a0.f_l) (pA k1 (pA k1 (pA k2 (pA k2 (pA k2 (pA k2 (pA k2 (pA (ixm e_lex_Token k3) (pA k2 (pA k2 (pA k2 (pA k2 (pA k4 (pA k4 (pA k4 (pA k4 (pA k4 (pA (ixm e_lex_Token k5) (pA k4 (pA k4 (pA k4 (pA k4 (pA k4 pT))))))))))))))))))))))))))))) (by kernel_rfl)
      · obtain rfl := retE h
        exact fin (ok X) 5 [.b true, .b true, .b true, .b true, .b true, .i (a0.f_l.length : Int), .b true, .b true, .b true, .b true, .b true, .b true, .b true, .e (e_lex_Token v1), .b true, .b true, .b true, .b true, .b false, .b false, .b false, .b false, .b false, .b false, .b false, .b false, .b false, .b false] (pA k1 (pA k1 (pA k1 (pA k1 (pA k1 (pA (lm e_lex_Token a0.f_l) (pA k1 (pA k1 (pA k2 (pA k2 (pA k2 (pA k2 (pA k2 (pA (ixm e_lex_Token k3) (pA k2 (pA k2 (pA k2 (pA k2 (pA k4 (pA k4 (pA k4 (pA k4 (pA k4 (pA k4 (pA k4 (pA k4 (pA k4 (pA k4 pT)))))))))))))))))))))))))))) (by kernel_rfl)
    · obtain rfl := retE h
      exact fin (ok X) 5 [.b true, .b true, .b true, .b true, .b true, .i (a0.f_l.length : Int), .b true, .b true, .b false, .b false, .b false, .b false, .b false, .b false, .b false, .b false, .b false, .b false, .b false, .b false, .b false, .b false, .b false, .b false, .b false, .b false, .b false] (pA k1 (pA k1 (pA k1 (pA k1 (pA k1 (pA (lm e_lex_Token a0.f_l) (pA k1 (pA k1 (pA k2 (pA k2 (pA k2 (pA k2 (pA k2 (pA k2 (pA k2 (pA k2 (pA k2 (pA ff (pA ff (pA ff (pA ff (pA ff (pA ff (pA ff (pA ff (pA ff (pA ff pT))))))))))))))))))))))))))) (by kernel_rfl)
  · obtain rfl := retE h
    exact fin (ok X) 5 [.b false, .b false, .b false, .b false, .b false, .b false, .b false, .b false, .b false, .b false, .b false, .b false, .b false, .b false, .b false, .b false, .b false, .b false, .b false, .b false, .b false, .b false, .b false, .b false, .b false, .b false] (pA k1 (pA k1 (pA k1 (pA k1 (pA k1 (pA k1 (pA k1 (pA ff (pA ff (pA ff (pA ff (pA ff (pA ff (pA ff (pA ff (pA ff (pA ff (pA ff (pA ff (pA ff (pA ff (pA ff (pA ff (pA ff (pA ff (pA ff pT)))))))))))))))))))))))))) (by kernel_rfl)

theorem m_parse_reader_skip {a0 : parse_reader} {a1 : ByteArray} {r : (parse_reader × Bool)} (h : parse_reader_skip a0 a1 = some r) : Cs Tryz.prog (GX X) 20 [xP 0 0, xS a1] [oB 71 (bs (e_parse_reader a0))] (r_parse_reader_skip r) (o_parse_reader_skip r) := by
  refine fnT (cx := cx X) Tryz.f20 Tryz.call20 Tryz.func20 (by kernel_rfl) ?_
  unfold parse_reader_skip at h
  obtain ⟨v1, k1, h⟩ := bindE h
  refine adv (ok X) 5 [.s (r_parse_reader_sees v1) (o_parse_reader_sees a0 v1)] (pA (m_parse_reader_sees (X := X) k1) pT) (by kernel_rfl) ?_
  rcases iteE h with ⟨k2, h⟩ | ⟨k2, h⟩
  · obtain rfl := retE h
    exact fin (ok X) 4 [.b true] (pA k2 pT) (by kernel_rfl)
  · obtain ⟨v2, k3, h⟩ := bindE h
    obtain rfl := retE h
    exact fin (ok X) 7 [.b false, .l (List.map e_lex_Token v2)] (pA k2 (pA (lsm0 e_lex_Token k3) (pA (lnm e_lex_Token_len a0.f_l) pT))) (by kernel_rfl)

theorem m_parse_reader_of {a0 : parse_reader} {a1 : Int} {r : Bool} (h : parse_reader_of a0 a1 = some r) : Cs Tryz.prog (GX X) 115 [xP 0 0, xI a1] [oB 71 (bs (e_parse_reader a0))] (r_parse_reader_of r) (o_parse_reader_of a0 r) := by
  refine fnT (cx := cx X) Tryz.f115 Tryz.call115 Tryz.func115 (by kernel_rfl) ?_
  unfold parse_reader_of at h
  rcases iteE h with ⟨k1, h⟩ | ⟨k1, h⟩
  · rcases iteE h with ⟨k2, h⟩ | ⟨k2, h⟩
    · obtain ⟨v1, k3, h⟩ := bindE h
      obtain rfl := retE h
      exact fin (ok X) 5 [.b true, .b true, .b true, .b true, .b true, .i (a0.f_l.length : Int), .b true, .b true, .b true, .b true, .b true, .b true, .b true, .e (e_lex_Token v1), .b true, .b true, .b true, .b true, .b true] (pA k1 (pA k1 (pA k1 (pA k1 (pA k1 (pA (lm e_lex_Token a0.f_l) (pA k1 (pA k1 (pA k2 (pA k2 (pA k2 (pA k2 (pA k2 (pA (ixm e_lex_Token k3) (pA k2 (pA k2 (pA k2 (pA k2 (pA k2 pT))))))))))))))))))) (by kernel_rfl)
    · obtain rfl := retE h
      exact fin (ok X) 5 [.b true, .b true, .b true, .b true, .b true, .i (a0.f_l.length : Int), .b true, .b true, .b false, .b false, .b false, .b false, .b false, .b false, .b false, .b false, .b false, .b false] (pA k1 (pA k1 (pA k1 (pA k1 (pA k1 (pA (lm e_lex_Token a0.f_l) (pA k1 (pA k1 (pA k2 (pA k2 (pA k2 (pA k2 (pA k2 (pA k2 (pA k2 (pA k2 (pA k2 (pA k2 pT)))))))))))))))))) (by kernel_rfl)
  · obtain rfl := retE h
    exact fin (ok X) 5 [.b false, .b false, .b false, .b false, .b false, .b false, .b false, .b false, .b false, .b false, .b false, .b false, .b false, .b false, .b false, .b false, .b false] (pA k1 (pA k1 (pA k1 (pA k1 (pA k1 (pA k1 (pA k1 (pA ff (pA ff (pA ff (pA ff (pA ff (pA ff (pA ff (pA ff (pA ff (pA ff pT))))))))))))))))) (by kernel_rfl)

theorem m_parse_reader_fail {a0 : parse_reader} {a1 : Int} {r : parse_reader} (h : parse_reader_fail a0 a1 = some r) : Cs Tryz.prog (GX X) 24 [xP 0 0, xI a1] [oB 71 (bs (e_parse_reader a0))] (r_parse_reader_fail r) (o_parse_reader_fail r) := by
  refine fnT (cx := cx X) Tryz.f24 Tryz.call24 Tryz.func24 (by kernel_rfl) ?_
  unfold parse_reader_fail at h
  rcases iteE h with ⟨k1, h⟩ | ⟨k1, h⟩
  · obtain rfl := retE h
    exact fin (ok X) 5 [.b true] (pA k1 pT) (by kernel_rfl)
  · refine adv (ok X) 9 [.b false, .i (a0.f_l.length : Int)] (pA k1 (pA (lm e_lex_Token a0.f_l) pT)) (by kernel_rfl) ?_
    rcases iteE h with ⟨k2, h⟩ | ⟨k2, h⟩
    · obtain ⟨v1, k3, h⟩ := bindE h
      obtain rfl := retE h
      exact fin (ok X) 2 [.b true, .e (e_lex_Token v1)] (pA k2 (pA (ixm e_lex_Token k3) pT)) (by kernel_rfl)
    · obtain rfl := retE h
      exact fin (ok X) 2 [.b false] (pA k2 pT) (by kernel_rfl)

theorem m_parse_reader_take {a0 : parse_reader} {a1 : Int} {r : (parse_reader × lex_Token)} (h : parse_reader_take a0 a1 = some r) : Cs Tryz.prog (GX X) 96 [xP 0 0, xI a1] [oB 71 (bs (e_parse_reader a0))] (r_parse_reader_take r) (o_parse_reader_take r) := by
  refine fnT (cx := cx X) Tryz.f96 Tryz.call96 Tryz.func96 (by kernel_rfl) ?_
  unfold parse_reader_take at h
  obtain ⟨v1, k1, h⟩ := bindE h
  refine adv (ok X) 5 [.s (r_parse_reader_of v1) (o_parse_reader_of a0 v1)] (pA (m_parse_reader_of (X := X) k1) pT) (by kernel_rfl) ?_
  rcases iteE h with ⟨k2, h⟩ | ⟨k2, h⟩
  · obtain ⟨v2, k3, h⟩ := bindE h
    obtain rfl := retE h
    exact fin (ok X) 6 [.b true, .s (r_parse_reader_fail v2) (o_parse_reader_fail v2)] (pA k2 (pA (m_parse_reader_fail (X := X) k3) pT)) (by kernel_rfl)
  · obtain ⟨v3, k4, h⟩ := bindE h
    obtain ⟨v4, k5, h⟩ := bindE h
    obtain rfl := retE h
    exact fin (ok X) 9 [.b false, .e (e_lex_Token v3), .l (List.map e_lex_Token v4)] (pA k2 (pA (ixm e_lex_Token k4) (pA (lsm0 e_lex_Token k5) (pA (lnm e_lex_Token_len a0.f_l) pT)))) (by kernel_rfl)

theorem m_parse_reader_name {a0 : parse_reader} {r : (parse_reader × ByteArray)} (h : parse_reader_name a0 = some r) : Cs Tryz.prog (GX X) 57 [xP 0 0] [oB 71 (bs (e_parse_reader a0))] (r_parse_reader_name r) (o_parse_reader_name r) := by
  refine fnT (cx := cx X) Tryz.f57 Tryz.call57 Tryz.func57 (by kernel_rfl) ?_
  unfold parse_reader_name at h
  obtain ⟨v1, k1, h⟩ := bindE h
  obtain rfl := retE h
  exact fin (ok X) 5 [.s (r_parse_reader_take v1) (o_parse_reader_take v1)] (pA (m_parse_reader_take (X := X) k1) pT) (by kernel_rfl)

theorem m_slices_IndexFunc_string_string__parse_reader_skip {a0 : (List ByteArray)} {a1010 : parse_reader} {r : (parse_reader × Int)} (h : slices_IndexFunc_string_string__parse_reader_skip a0 a1010 = some r) : Cs Tryz.prog (GX X) 97 [xL (List.map e_str a0), .fn (.func 20) [.box 0 0] []] [oB 71 (bs (e_parse_reader a1010))] (r_slices_IndexFunc_string_string__parse_reader_skip r) (o_slices_IndexFunc_string_string__parse_reader_skip r) := by
  refine fnT (cx := cx X) Tryz.f97 Tryz.call97 Tryz.func97 (by kernel_rfl) ?_
  unfold slices_IndexFunc_string_string__parse_reader_skip at h
  refine adv (ok X) 5 [.i (a0.length : Int)] (pA (lm e_str a0) pT) (by kernel_rfl) ?_
  refine lp (ok X) (slices_IndexFunc_string_string__parse_reader_skip_l1 a0) (fun (x1 : (Int × (List lex_Token) × Int × Int × Int × Int × Int)) => ⟨19, 1, [(0, [xL (List.map e_str a0)]), (1, [.fn (.func 20) [.box 0 0] []]), (7, [xI (a0.length : Int)]), (8, [xI x1.1])], [oB 71 (bs (e_parse_reader (parse_reader.mk x1.2.1 x1.2.2.1 x1.2.2.2.1 x1.2.2.2.2.1 x1.2.2.2.2.2.1 x1.2.2.2.2.2.2)))]⟩) (fun (j1 : ((List lex_Token) × Int × Int × Int × Int × Int)) => ⟨19, 1, [], [oB 71 (bs (e_parse_reader (parse_reader.mk j1.1 j1.2.1 j1.2.2.1 j1.2.2.2.1 j1.2.2.2.2.1 j1.2.2.2.2.2)))]⟩) R_slices_IndexFunc_string_string__parse_reader_skip (0, a1010.f_l, a1010.f_end, a1010.f_e, a1010.f_at, a1010.f_deep, a1010.f_in) (fun _ => ⟨_, _, _, _, rfl⟩) h (by kernel_rfl) (fun x1 o h => ?_) (fun r' h => ?_) (fun j1 h => ?_)
  · unfold slices_IndexFunc_string_string__parse_reader_skip_l1 at h
    rcases iteE h with ⟨k1, h⟩ | ⟨k1, h⟩
    · obtain ⟨v1, k2, h⟩ := bindE h
      obtain ⟨v2, k3, h⟩ := bindE h
      refine adv (ok X) 11 [.b true, .e [.str v1], .s (r_parse_reader_skip v2) (o_parse_reader_skip v2)] (pA k1 (pA (ixm e_str k2) (pA (m_parse_reader_skip (X := X) k3) pT))) (by kernel_rfl) ?_
      rcases iteE h with ⟨k4, h⟩ | ⟨k4, h⟩
      · obtain rfl := retE h
        exact fin (ok X) 4 [.b true] (pA k4 pT) (by kernel_rfl)
      · obtain rfl := retE h
        exact fin (ok X) 4 [.b false] (pA k4 pT) (by kernel_rfl)
    · obtain rfl := retE h
      exact fin (ok X) 5 [.b false] (pA k1 pT) (by kernel_rfl)
  · obtain rfl := retE h
    kernel_rfl
  · obtain rfl := retE h
    exact fin (ok X) 3 [] pT (by kernel_rfl)

theorem m_parse_reader_which {a0 : parse_reader} {a1 : (List ByteArray)} {r : (parse_reader × Int)} (h : parse_reader_which a0 a1 = some r) : Cs Tryz.prog (GX X) 58 [xP 0 0, xL (List.map e_str a1)] [oB 71 (bs (e_parse_reader a0))] (r_parse_reader_which r) (o_parse_reader_which r) := by
  refine fnT (cx := cx X) Tryz.f58 Tryz.call58 Tryz.func58 (by kernel_rfl) ?_
  unfold parse_reader_which at h
  obtain ⟨v1, k1, h⟩ := bindE h
  obtain rfl := retE h
  exact fin (ok X) 5 [.s (r_slices_IndexFunc_string_string__parse_reader_skip v1) (o_slices_IndexFunc_string_string__parse_reader_skip v1)] (pA (m_slices_IndexFunc_string_string__parse_reader_skip (X := X) k1) pT) (by kernel_rfl)

theorem m_parse_reader_number {a0 : parse_reader} {r : (parse_reader × Int)} (h : parse_reader_number a0 = some r) : Cs Tryz.prog (GX X) 59 [xP 0 0] [oB 71 (bs (e_parse_reader a0))] (r_parse_reader_number r) (o_parse_reader_number r) := by
  refine fnT (cx := cx X) Tryz.f59 Tryz.call59 Tryz.func59 (by kernel_rfl) ?_
  unfold parse_reader_number at h
  obtain ⟨v1, k1, h⟩ := bindE h
  obtain rfl := retE h
  exact fin (ok X) 5 [.s (r_parse_reader_take v1) (o_parse_reader_take v1)] (pA (m_parse_reader_take (X := X) k1) pT) (by kernel_rfl)

theorem m_parse_reader_must {a0 : parse_reader} {a1 : ByteArray} {r : parse_reader} (h : parse_reader_must a0 a1 = some r) : Cs Tryz.prog (GX X) 60 [xP 0 0, xS a1] [oB 71 (bs (e_parse_reader a0))] (r_parse_reader_must r) (o_parse_reader_must r) := by
  refine fnT (cx := cx X) Tryz.f60 Tryz.call60 Tryz.func60 (by kernel_rfl) ?_
  unfold parse_reader_must at h
  obtain ⟨v1, k1, h⟩ := bindE h
  refine adv (ok X) 2 [.s (r_parse_reader_skip v1) (o_parse_reader_skip v1)] (pA (m_parse_reader_skip (X := X) k1) pT) (by kernel_rfl) ?_
  rcases iteE h with ⟨k2, h⟩ | ⟨k2, h⟩
  · obtain ⟨v2, k3, h⟩ := bindE h
    obtain rfl := retE h
    exact fin (ok X) 2 [.b true, .s (r_parse_reader_fail v2) (o_parse_reader_fail v2)] (pA k2 (pA (m_parse_reader_fail (X := X) k3) pT)) (by kernel_rfl)
  · obtain rfl := retE h
    exact fin (ok X) 2 [.b false] (pA k2 pT) (by kernel_rfl)

theorem m_parse_reader_channel {a0 : parse_reader} {r : (parse_reader × ast_Chan)} (h : parse_reader_channel a0 = some r) : Cs Tryz.prog (GX X) 21 [xP 0 0] [oB 71 (bs (e_parse_reader a0))] (r_parse_reader_channel r) (o_parse_reader_channel r) := by
  refine fnT (cx := cx X) Tryz.f21 Tryz.call21 Tryz.func21 (by kernel_rfl) ?_
  unfold parse_reader_channel at h
  obtain ⟨v1, k1, h⟩ := bindE h
  obtain ⟨v2, k2, h⟩ := bindE h
  refine adv (ok X) 9 [.s (r_parse_reader_name v1) (o_parse_reader_name v1), .s (r_parse_reader_which v2) (o_parse_reader_which v2)] (pA (m_parse_reader_name (X := X) k1) (pA (m_parse_reader_which (X := X) k2) pT)) (by kernel_rfl) ?_
  rcases iteE h with ⟨k3, h⟩ | ⟨k3, h⟩
  · obtain ⟨v3, k4, h⟩ := bindE h
    obtain rfl := retE h
    exact fin (ok X) 6 [.b true, .s (r_parse_reader_fail v3) (o_parse_reader_fail v3)] (pA k3 (pA (m_parse_reader_fail (X := X) k4) pT)) (by kernel_rfl)
  · obtain ⟨v4, k5, h⟩ := bindE h
    obtain ⟨v5, k6, h⟩ := bindE h
    obtain ⟨v6, k7, h⟩ := bindE h
    obtain ⟨v7, k8, h⟩ := bindE h
    obtain ⟨v8, k9, h⟩ := bindE h
    obtain ⟨v9, k10, h⟩ := bindE h
    obtain ⟨v10, k11, h⟩ := bindE h
    obtain ⟨v11, k12, h⟩ := bindE h
    refine adv (ok X) 17 [.b false, .s (r_parse_reader_number v4) (o_parse_reader_number v4), .s (r_parse_reader_must v5) (o_parse_reader_must v5), .s (r_parse_reader_name v6) (o_parse_reader_name v6), .s (r_parse_reader_must v7) (o_parse_reader_must v7), .s (r_parse_reader_name v8) (o_parse_reader_name v8), .s (r_parse_reader_must v9) (o_parse_reader_must v9), .o [0, 1, 2, 3, 4, 5, 6, 7], .s (r_parse_reader_name v10) (o_parse_reader_name v10), .l (List.map e_str v11)] (pA k3 (pA (m_parse_reader_number (X := X) k5) (pA (m_parse_reader_must (X := X) k6) (pA (m_parse_reader_name (X := X) k7) (pA (m_parse_reader_must (X := X) k8) (pA (m_parse_reader_name (X := X) k9) (pA (m_parse_reader_must (X := X) k10) (pA (m_parse_reader_name (X := X) k11) (pA (apm (L := []) (M := [v10.2]) e_str_len k12) pT))))))))) (by kernel_rfl) ?_
    refine lp (ok X) (parse_reader_channel_l1) (fun (x1 : ((List lex_Token) × Int × Int × Int × Int × Int × (List ByteArray))) => ⟨53, 1, [(0, [xP 0 0]), (2, [xP 1 0]), (3, [xP 2 0])], [oB 71 (bs (e_parse_reader (parse_reader.mk x1.1 x1.2.1 x1.2.2.1 x1.2.2.2.1 x1.2.2.2.2.1 x1.2.2.2.2.2.1))), oB 73 [.pv (.str (ByteArray.mk #[])), .pv (.int .i64 0), .pv (.int .i64 0), .pv (.str (ByteArray.mk #[])), .pv (.str (ByteArray.mk #[])), .emp], oB 73 [.pv (.str v1.2), .pv (.int .i64 v2.2), .pv (.int .i64 v4.2), .pv (.str v6.2), .pv (.str v8.2), .row 3], oR true 9 1 (List.map e_str x1.2.2.2.2.2.2)]⟩) (fun (j1 : ((List lex_Token) × Int × Int × Int × Int × Int × (List ByteArray))) => ⟨53, 1, [(0, [xP 0 0]), (2, [xP 1 0]), (3, [xP 2 0])], [oB 71 (bs (e_parse_reader (parse_reader.mk j1.1 j1.2.1 j1.2.2.1 j1.2.2.2.1 j1.2.2.2.2.1 j1.2.2.2.2.2.1))), oB 73 [.pv (.str (ByteArray.mk #[])), .pv (.int .i64 0), .pv (.int .i64 0), .pv (.str (ByteArray.mk #[])), .pv (.str (ByteArray.mk #[])), .emp], oB 73 [.pv (.str v1.2), .pv (.int .i64 v2.2), .pv (.int .i64 v4.2), .pv (.str v6.2), .pv (.str v8.2), .row 3], oR true 9 1 (List.map e_str j1.2.2.2.2.2.2)]⟩) R_parse_reader_channel (v10.1.f_l, v10.1.f_end, v10.1.f_e, v10.1.f_at, v10.1.f_deep, v10.1.f_in, v11) (fun _ => ⟨_, _, _, _, rfl⟩) h (by kernel_rfl) (fun x1 o h => ?_) (fun r' h => ?_) (fun j1 h => ?_)
    · unfold parse_reader_channel_l1 at h
      obtain ⟨v12, k13, h⟩ := bindE h
      refine adv (ok X) 3 [.s (r_parse_reader_skip v12) (o_parse_reader_skip v12)] (pA (m_parse_reader_skip (X := X) k13) pT) (by kernel_rfl) ?_
      rcases iteE h with ⟨k14, h⟩ | ⟨k14, h⟩
      · obtain ⟨v13, k15, h⟩ := bindE h
        obtain ⟨v14, k16, h⟩ := bindE h
        obtain rfl := retE h
        exact fin (ok X) 5 [.b true, .o [0, 1, 2, 3, 4, 5, 6, 7], .s (r_parse_reader_name v13) (o_parse_reader_name v13), .l (List.map e_str v14)] (pA k14 (pA (m_parse_reader_name (X := X) k15) (pA (apm (L := x1.2.2.2.2.2.2) (M := [v13.2]) e_str_len k16) pT))) (by kernel_rfl)
      · obtain rfl := retE h
        exact fin (ok X) 2 [.b false] (pA k14 pT) (by kernel_rfl)
    · cases h
    · obtain ⟨v15, k17, h⟩ := bindE h
      obtain ⟨v16, k18, h⟩ := bindE h
      obtain rfl := retE h
      exact fin (ok X) 7 [.s (r_parse_reader_must v15) (o_parse_reader_must v15), .s (r_parse_reader_must v16) (o_parse_reader_must v16)] (pA (m_parse_reader_must (X := X) k17) (pA (m_parse_reader_must (X := X) k18) pT)) (by kernel_rfl)

theorem m_parse_reader_rule {a0 : parse_reader} {r : (parse_reader × ast_Rule)} (h : parse_reader_rule a0 = some r) : Cs Tryz.prog (GX X) 22 [xP 0 0] [oB 71 (bs (e_parse_reader a0))] (r_parse_reader_rule r) (o_parse_reader_rule r) := by
  refine fnT (cx := cx X) Tryz.f22 Tryz.call22 Tryz.func22 (by kernel_rfl) ?_
  unfold parse_reader_rule at h
  obtain ⟨v1, k1, h⟩ := bindE h
  obtain ⟨v2, k2, h⟩ := bindE h
  refine adv (ok X) 7 [.s (r_parse_reader_name v1) (o_parse_reader_name v1), .s (r_parse_reader_must v2) (o_parse_reader_must v2)] (pA (m_parse_reader_name (X := X) k1) (pA (m_parse_reader_must (X := X) k2) pT)) (by kernel_rfl) ?_
  refine lp (ok X) (parse_reader_rule_l1) (fun (x1 : ((List lex_Token) × Int × Int × Int × Int × Int × (List ast_Move))) => ⟨38, 1, [(0, [xP 0 0]), (2, [xP 1 0]), (3, [xP 2 0])], [oB 71 (bs (e_parse_reader (parse_reader.mk x1.1 x1.2.1 x1.2.2.1 x1.2.2.2.1 x1.2.2.2.2.1 x1.2.2.2.2.2.1))), oB 77 [.pv (.str (ByteArray.mk #[])), .emp], oB 77 [.pv (.str v1.2), .row 3], oR true 111 3 (List.map e_ast_Move x1.2.2.2.2.2.2)]⟩) (fun (j1 : ((List lex_Token) × Int × Int × Int × Int × Int × (List ast_Move))) => ⟨38, 1, [(0, [xP 0 0]), (2, [xP 1 0]), (3, [xP 2 0])], [oB 71 (bs (e_parse_reader (parse_reader.mk j1.1 j1.2.1 j1.2.2.1 j1.2.2.2.1 j1.2.2.2.2.1 j1.2.2.2.2.2.1))), oB 77 [.pv (.str (ByteArray.mk #[])), .emp], oB 77 [.pv (.str v1.2), .row 3], oR true 111 3 (List.map e_ast_Move j1.2.2.2.2.2.2)]⟩) R_parse_reader_rule (v2.f_l, v2.f_end, v2.f_e, v2.f_at, v2.f_deep, v2.f_in, []) (fun _ => ⟨_, _, _, _, rfl⟩) h (by kernel_rfl) (fun x1 o h => ?_) (fun r' h => ?_) (fun j1 h => ?_)
  · unfold parse_reader_rule_l1 at h
    refine adv (ok X) 2 [] pT (by kernel_rfl) ?_
    refine jn (ok X) 1 (fun (j2 : Bool) => ⟨38, 1, [(0, [xP 0 0]), (2, [xP 1 0]), (3, [xP 2 0]), (19, [xB j2])], [oB 71 (bs (e_parse_reader (parse_reader.mk x1.1 x1.2.1 x1.2.2.1 x1.2.2.2.1 x1.2.2.2.2.1 x1.2.2.2.2.2.1))), oB 77 [.pv (.str (ByteArray.mk #[])), .emp], oB 77 [.pv (.str v1.2), .row 3], oR true 111 3 (List.map e_ast_Move x1.2.2.2.2.2.2)]⟩) h (fun j2 h => ?_) (fun j2 h => ?_)
    · rcases iteE h with ⟨k3, h⟩ | ⟨k3, h⟩
      · obtain ⟨v3, k4, h⟩ := bindE h
        obtain rfl := retE h
        exact fin (ok X) 1 [.b true, .b true, .s (r_parse_reader_sees v3) (o_parse_reader_sees (parse_reader.mk x1.1 x1.2.1 x1.2.2.1 x1.2.2.2.1 x1.2.2.2.2.1 x1.2.2.2.2.2.1) v3), .b true, .b true] (pA k3 (pA k3 (pA (m_parse_reader_sees (X := X) k4) (pA k3 (pA k3 pT))))) (by kernel_rfl)
      · obtain rfl := retE h
        exact fin (ok X) 1 [.b false, .b false, .b false, .b false] (pA k3 (pA k3 (pA k3 (pA k3 pT)))) (by kernel_rfl)
    · rcases iteE h with ⟨k5, h⟩ | ⟨k5, h⟩
      · obtain ⟨v4, k6, h⟩ := bindE h
        obtain ⟨v5, k7, h⟩ := bindE h
        obtain ⟨v6, k8, h⟩ := bindE h
        obtain ⟨v7, k9, h⟩ := bindE h
        obtain ⟨v8, k10, h⟩ := bindE h
        obtain rfl := retE h
        exact fin (ok X) 9 [.b true, .s (r_parse_reader_number v4) (o_parse_reader_number v4), .s (r_parse_reader_name v5) (o_parse_reader_name v5), .s (r_parse_reader_number v6) (o_parse_reader_number v6), .s (r_parse_reader_must v7) (o_parse_reader_must v7), .l (List.map e_ast_Move v8)] (pA k5 (pA (m_parse_reader_number (X := X) k6) (pA (m_parse_reader_name (X := X) k7) (pA (m_parse_reader_number (X := X) k8) (pA (m_parse_reader_must (X := X) k9) (pA (apm (L := x1.2.2.2.2.2.2) (M := [(ast_Move.mk v4.2 v5.2 v6.2)]) e_ast_Move_len k10) pT)))))) (by kernel_rfl)
      · obtain rfl := retE h
        exact fin (ok X) 2 [.b false] (pA k5 pT) (by kernel_rfl)
  · cases h
  · obtain ⟨v9, k11, h⟩ := bindE h
    obtain rfl := retE h
    exact fin (ok X) 5 [.s (r_parse_reader_must v9) (o_parse_reader_must v9)] (pA (m_parse_reader_must (X := X) k11) pT) (by kernel_rfl)

theorem m_parse_reader_opens {a0 : parse_reader} {r : (parse_reader × Bool)} (h : parse_reader_opens a0 = some r) : Cs Tryz.prog (GX X) 187 [xP 0 0] [oB 71 (bs (e_parse_reader a0))] (r_parse_reader_opens r) (o_parse_reader_opens r) := by
  refine fnT (cx := cx X) Tryz.f187 Tryz.call187 Tryz.func187 (by kernel_rfl) ?_
  unfold parse_reader_opens at h
  rcases iteE h with ⟨k1, h⟩ | ⟨k1, h⟩
  · obtain ⟨v1, k2, h⟩ := bindE h
    obtain rfl := retE h
    exact fin (ok X) 11 [.b true, .s (r_parse_reader_fail v1) (o_parse_reader_fail v1)] (pA k1 (pA (m_parse_reader_fail (X := X) k2) pT)) (by kernel_rfl)
  · obtain rfl := retE h
    exact fin (ok X) 12 [.b false] (pA k1 pT) (by kernel_rfl)

theorem s_parse_reader_expr {n : Nat} (ih_parse_reader_expr : ∀ (a0 : parse_reader) (r : (parse_reader × ast_Expr)), parse_reader_exprN n a0 = some r → Cs Tryz.prog (GX X) 141 [xP 0 0] [oB 71 (bs (e_parse_reader a0))] (r_parse_reader_expr r) (o_parse_reader_expr r)) (ih_parse_reader_chain_parse_reader_term : ∀ (a0 : parse_reader) (a2 : (List ByteArray)) (a3 : Int) (r : (parse_reader × ast_Expr)), parse_reader_chain_parse_reader_termN n a0 a2 a3 = some r → Cs Tryz.prog (GX X) 160 [xP 0 0, .fn (.func 161) [.box 0 0] [], xL (List.map e_str a2), xI a3] [oB 71 (bs (e_parse_reader a0))] (r_parse_reader_chain_parse_reader_term r) (o_parse_reader_chain_parse_reader_term r)) (ih_parse_reader_term : ∀ (a0 : parse_reader) (r : (parse_reader × ast_Expr)), parse_reader_termN n a0 = some r → Cs Tryz.prog (GX X) 161 [xP 0 0] [oB 71 (bs (e_parse_reader a0))] (r_parse_reader_term r) (o_parse_reader_term r)) (ih_parse_reader_chain_parse_reader_factor : ∀ (a0 : parse_reader) (a2 : (List ByteArray)) (a3 : Int) (r : (parse_reader × ast_Expr)), parse_reader_chain_parse_reader_factorN n a0 a2 a3 = some r → Cs Tryz.prog (GX X) 160 [xP 0 0, .fn (.func 174) [.box 0 0] [], xL (List.map e_str a2), xI a3] [oB 71 (bs (e_parse_reader a0))] (r_parse_reader_chain_parse_reader_factor r) (o_parse_reader_chain_parse_reader_factor r)) (ih_parse_reader_factor : ∀ (a0 : parse_reader) (r : (parse_reader × ast_Expr)), parse_reader_factorN n a0 = some r → Cs Tryz.prog (GX X) 174 [xP 0 0] [oB 71 (bs (e_parse_reader a0))] (r_parse_reader_factor r) (o_parse_reader_factor r)) (ih_parse_reader_negated : ∀ (a0 : parse_reader) (r : (parse_reader × ast_Expr)), parse_reader_negatedN n a0 = some r → Cs Tryz.prog (GX X) 183 [xP 0 0] [oB 71 (bs (e_parse_reader a0))] (r_parse_reader_negated r) (o_parse_reader_negated r)) (ih_parse_reader_parens : ∀ (a0 : parse_reader) (r : (parse_reader × ast_Expr)), parse_reader_parensN n a0 = some r → Cs Tryz.prog (GX X) 184 [xP 0 0] [oB 71 (bs (e_parse_reader a0))] (r_parse_reader_parens r) (o_parse_reader_parens r)) (a0 : parse_reader) (r : (parse_reader × ast_Expr)) (h : parse_reader_exprN (n + 1) a0 = some r) : Cs Tryz.prog (GX X) 141 [xP 0 0] [oB 71 (bs (e_parse_reader a0))] (r_parse_reader_expr r) (o_parse_reader_expr r) := by
  refine fnT (cx := cx X) Tryz.f141 Tryz.call141 Tryz.func141 (by kernel_rfl) ?_
  rw [parse_reader_exprN] at h
  obtain ⟨v1, k1, h⟩ := bindE h
  obtain rfl := retE h
  exact fin (ok X) 5 [.s (r_parse_reader_chain_parse_reader_term v1) (o_parse_reader_chain_parse_reader_term v1)] (pA (ih_parse_reader_chain_parse_reader_term _ _ _ _ k1) pT) (by kernel_rfl)

theorem s_parse_reader_chain_parse_reader_term {n : Nat} (ih_parse_reader_expr : ∀ (a0 : parse_reader) (r : (parse_reader × ast_Expr)), parse_reader_exprN n a0 = some r → Cs Tryz.prog (GX X) 141 [xP 0 0] [oB 71 (bs (e_parse_reader a0))] (r_parse_reader_expr r) (o_parse_reader_expr r)) (ih_parse_reader_chain_parse_reader_term : ∀ (a0 : parse_reader) (a2 : (List ByteArray)) (a3 : Int) (r : (parse_reader × ast_Expr)), parse_reader_chain_parse_reader_termN n a0 a2 a3 = some r → Cs Tryz.prog (GX X) 160 [xP 0 0, .fn (.func 161) [.box 0 0] [], xL (List.map e_str a2), xI a3] [oB 71 (bs (e_parse_reader a0))] (r_parse_reader_chain_parse_reader_term r) (o_parse_reader_chain_parse_reader_term r)) (ih_parse_reader_term : ∀ (a0 : parse_reader) (r : (parse_reader × ast_Expr)), parse_reader_termN n a0 = some r → Cs Tryz.prog (GX X) 161 [xP 0 0] [oB 71 (bs (e_parse_reader a0))] (r_parse_reader_term r) (o_parse_reader_term r)) (ih_parse_reader_chain_parse_reader_factor : ∀ (a0 : parse_reader) (a2 : (List ByteArray)) (a3 : Int) (r : (parse_reader × ast_Expr)), parse_reader_chain_parse_reader_factorN n a0 a2 a3 = some r → Cs Tryz.prog (GX X) 160 [xP 0 0, .fn (.func 174) [.box 0 0] [], xL (List.map e_str a2), xI a3] [oB 71 (bs (e_parse_reader a0))] (r_parse_reader_chain_parse_reader_factor r) (o_parse_reader_chain_parse_reader_factor r)) (ih_parse_reader_factor : ∀ (a0 : parse_reader) (r : (parse_reader × ast_Expr)), parse_reader_factorN n a0 = some r → Cs Tryz.prog (GX X) 174 [xP 0 0] [oB 71 (bs (e_parse_reader a0))] (r_parse_reader_factor r) (o_parse_reader_factor r)) (ih_parse_reader_negated : ∀ (a0 : parse_reader) (r : (parse_reader × ast_Expr)), parse_reader_negatedN n a0 = some r → Cs Tryz.prog (GX X) 183 [xP 0 0] [oB 71 (bs (e_parse_reader a0))] (r_parse_reader_negated r) (o_parse_reader_negated r)) (ih_parse_reader_parens : ∀ (a0 : parse_reader) (r : (parse_reader × ast_Expr)), parse_reader_parensN n a0 = some r → Cs Tryz.prog (GX X) 184 [xP 0 0] [oB 71 (bs (e_parse_reader a0))] (r_parse_reader_parens r) (o_parse_reader_parens r)) (a0 : parse_reader) (a2 : (List ByteArray)) (a3 : Int) (r : (parse_reader × ast_Expr)) (h : parse_reader_chain_parse_reader_termN (n + 1) a0 a2 a3 = some r) : Cs Tryz.prog (GX X) 160 [xP 0 0, .fn (.func 161) [.box 0 0] [], xL (List.map e_str a2), xI a3] [oB 71 (bs (e_parse_reader a0))] (r_parse_reader_chain_parse_reader_term r) (o_parse_reader_chain_parse_reader_term r) := by
  refine fnT (cx := cx X) Tryz.f160 Tryz.call160 Tryz.func160 (by kernel_rfl) ?_
  rw [parse_reader_chain_parse_reader_termN] at h
  obtain ⟨v1, k1, h⟩ := bindE h
  refine adv (ok X) 5 [.s (r_parse_reader_term v1) (o_parse_reader_term v1)] (pA (ih_parse_reader_term _ _ k1) pT) (by kernel_rfl) ?_
  refine lp (ok X) (parse_reader_chain_parse_reader_term_l1 (parse_reader_exprN n) (parse_reader_chain_parse_reader_termN n) (parse_reader_termN n) (parse_reader_chain_parse_reader_factorN n) (parse_reader_factorN n) (parse_reader_negatedN n) (parse_reader_parensN n) a2 a3) (fun (x1 : ((List lex_Token) × Int × Int × Int × Int × Int × Int × Int × ByteArray × (List ast_Expr))) => ⟨32, 1, [(0, [xP 0 0]), (1, [.fn (.func 161) [.box 0 0] []]), (2, [xL (List.map e_str a2)]), (3, [xI a3]), (8, [xP 1 0]), (9, [xP 2 0])], [oB 71 (bs (e_parse_reader (parse_reader.mk x1.1 x1.2.1 x1.2.2.1 x1.2.2.2.1 x1.2.2.2.2.1 x1.2.2.2.2.2.1))), oB 103 [.pv (.int .i64 0), .pv (.int .i64 0), .pv (.str (ByteArray.mk #[])), .emp], oB 103 (bs (f_ast_Expr (ast_Expr.mk x1.2.2.2.2.2.2.1 x1.2.2.2.2.2.2.2.1 x1.2.2.2.2.2.2.2.2.1 x1.2.2.2.2.2.2.2.2.2)))]⟩) (fun (j1 : ((List lex_Token) × Int × Int × Int × Int × Int × Int × Int × ByteArray × (List ast_Expr))) => ⟨32, 1, [(8, [xP 1 0]), (9, [xP 2 0])], [oB 71 (bs (e_parse_reader (parse_reader.mk j1.1 j1.2.1 j1.2.2.1 j1.2.2.2.1 j1.2.2.2.2.1 j1.2.2.2.2.2.1))), oB 103 [.pv (.int .i64 0), .pv (.int .i64 0), .pv (.str (ByteArray.mk #[])), .emp], oB 103 (bs (f_ast_Expr (ast_Expr.mk j1.2.2.2.2.2.2.1 j1.2.2.2.2.2.2.2.1 j1.2.2.2.2.2.2.2.2.1 j1.2.2.2.2.2.2.2.2.2)))]⟩) R_parse_reader_chain_parse_reader_term (v1.1.f_l, v1.1.f_end, v1.1.f_e, v1.1.f_at, v1.1.f_deep, v1.1.f_in, v1.2.Kind, v1.2.Num, v1.2.Name, v1.2.Kids) (fun _ => ⟨_, _, _, _, rfl⟩) h (by kernel_rfl) (fun x1 o h => ?_) (fun r' h => ?_) (fun j1 h => ?_)
  · unfold parse_reader_chain_parse_reader_term_l1 at h
    rcases iteE h with ⟨k2, h⟩ | ⟨k2, h⟩
    · obtain ⟨v2, k3, h⟩ := bindE h
      refine adv (ok X) 11 [.b true, .s (r_parse_reader_which v2) (o_parse_reader_which v2)] (pA k2 (pA (m_parse_reader_which (X := X) k3) pT)) (by kernel_rfl) ?_
      rcases iteE h with ⟨k4, h⟩ | ⟨k4, h⟩
      · obtain rfl := retE h
        exact fin (ok X) 2 [.b true] (pA k4 pT) (by kernel_rfl)
      · obtain ⟨v3, k5, h⟩ := bindE h
        obtain rfl := retE h
        exact fin (ok X) 4 [.b false, .o [0, 1, 2, 3, 4, 5, 6, 7, 8], .s (r_parse_reader_term v3) (o_parse_reader_term v3), .bl (List.map e_ast_Expr [(ast_Expr.mk x1.2.2.2.2.2.2.1 x1.2.2.2.2.2.2.2.1 x1.2.2.2.2.2.2.2.2.1 x1.2.2.2.2.2.2.2.2.2), v3.2])] (pA k4 (pA (ih_parse_reader_term _ _ k5) (pA (blc (e := e_ast_Expr) (x := (ast_Expr.mk x1.2.2.2.2.2.2.1 x1.2.2.2.2.2.2.2.1 x1.2.2.2.2.2.2.2.2.1 x1.2.2.2.2.2.2.2.2.2)) (e_ast_Expr_eq _).symm (blc (e := e_ast_Expr) (x := v3.2) (e_ast_Expr_eq _).symm (bl0 e_ast_Expr))) pT))) (by kernel_rfl)
    · obtain rfl := retE h
      exact fin (ok X) 5 [.b false] (pA k2 pT) (by kernel_rfl)
  · cases h
  · obtain rfl := retE h
    exact fin (ok X) 3 [] pT (by kernel_rfl)

theorem s_parse_reader_term {n : Nat} (ih_parse_reader_expr : ∀ (a0 : parse_reader) (r : (parse_reader × ast_Expr)), parse_reader_exprN n a0 = some r → Cs Tryz.prog (GX X) 141 [xP 0 0] [oB 71 (bs (e_parse_reader a0))] (r_parse_reader_expr r) (o_parse_reader_expr r)) (ih_parse_reader_chain_parse_reader_term : ∀ (a0 : parse_reader) (a2 : (List ByteArray)) (a3 : Int) (r : (parse_reader × ast_Expr)), parse_reader_chain_parse_reader_termN n a0 a2 a3 = some r → Cs Tryz.prog (GX X) 160 [xP 0 0, .fn (.func 161) [.box 0 0] [], xL (List.map e_str a2), xI a3] [oB 71 (bs (e_parse_reader a0))] (r_parse_reader_chain_parse_reader_term r) (o_parse_reader_chain_parse_reader_term r)) (ih_parse_reader_term : ∀ (a0 : parse_reader) (r : (parse_reader × ast_Expr)), parse_reader_termN n a0 = some r → Cs Tryz.prog (GX X) 161 [xP 0 0] [oB 71 (bs (e_parse_reader a0))] (r_parse_reader_term r) (o_parse_reader_term r)) (ih_parse_reader_chain_parse_reader_factor : ∀ (a0 : parse_reader) (a2 : (List ByteArray)) (a3 : Int) (r : (parse_reader × ast_Expr)), parse_reader_chain_parse_reader_factorN n a0 a2 a3 = some r → Cs Tryz.prog (GX X) 160 [xP 0 0, .fn (.func 174) [.box 0 0] [], xL (List.map e_str a2), xI a3] [oB 71 (bs (e_parse_reader a0))] (r_parse_reader_chain_parse_reader_factor r) (o_parse_reader_chain_parse_reader_factor r)) (ih_parse_reader_factor : ∀ (a0 : parse_reader) (r : (parse_reader × ast_Expr)), parse_reader_factorN n a0 = some r → Cs Tryz.prog (GX X) 174 [xP 0 0] [oB 71 (bs (e_parse_reader a0))] (r_parse_reader_factor r) (o_parse_reader_factor r)) (ih_parse_reader_negated : ∀ (a0 : parse_reader) (r : (parse_reader × ast_Expr)), parse_reader_negatedN n a0 = some r → Cs Tryz.prog (GX X) 183 [xP 0 0] [oB 71 (bs (e_parse_reader a0))] (r_parse_reader_negated r) (o_parse_reader_negated r)) (ih_parse_reader_parens : ∀ (a0 : parse_reader) (r : (parse_reader × ast_Expr)), parse_reader_parensN n a0 = some r → Cs Tryz.prog (GX X) 184 [xP 0 0] [oB 71 (bs (e_parse_reader a0))] (r_parse_reader_parens r) (o_parse_reader_parens r)) (a0 : parse_reader) (r : (parse_reader × ast_Expr)) (h : parse_reader_termN (n + 1) a0 = some r) : Cs Tryz.prog (GX X) 161 [xP 0 0] [oB 71 (bs (e_parse_reader a0))] (r_parse_reader_term r) (o_parse_reader_term r) := by
  refine fnT (cx := cx X) Tryz.f161 Tryz.call161 Tryz.func161 (by kernel_rfl) ?_
  rw [parse_reader_termN] at h
  obtain ⟨v1, k1, h⟩ := bindE h
  obtain rfl := retE h
  exact fin (ok X) 5 [.s (r_parse_reader_chain_parse_reader_factor v1) (o_parse_reader_chain_parse_reader_factor v1)] (pA (ih_parse_reader_chain_parse_reader_factor _ _ _ _ k1) pT) (by kernel_rfl)

theorem s_parse_reader_chain_parse_reader_factor {n : Nat} (ih_parse_reader_expr : ∀ (a0 : parse_reader) (r : (parse_reader × ast_Expr)), parse_reader_exprN n a0 = some r → Cs Tryz.prog (GX X) 141 [xP 0 0] [oB 71 (bs (e_parse_reader a0))] (r_parse_reader_expr r) (o_parse_reader_expr r)) (ih_parse_reader_chain_parse_reader_term : ∀ (a0 : parse_reader) (a2 : (List ByteArray)) (a3 : Int) (r : (parse_reader × ast_Expr)), parse_reader_chain_parse_reader_termN n a0 a2 a3 = some r → Cs Tryz.prog (GX X) 160 [xP 0 0, .fn (.func 161) [.box 0 0] [], xL (List.map e_str a2), xI a3] [oB 71 (bs (e_parse_reader a0))] (r_parse_reader_chain_parse_reader_term r) (o_parse_reader_chain_parse_reader_term r)) (ih_parse_reader_term : ∀ (a0 : parse_reader) (r : (parse_reader × ast_Expr)), parse_reader_termN n a0 = some r → Cs Tryz.prog (GX X) 161 [xP 0 0] [oB 71 (bs (e_parse_reader a0))] (r_parse_reader_term r) (o_parse_reader_term r)) (ih_parse_reader_chain_parse_reader_factor : ∀ (a0 : parse_reader) (a2 : (List ByteArray)) (a3 : Int) (r : (parse_reader × ast_Expr)), parse_reader_chain_parse_reader_factorN n a0 a2 a3 = some r → Cs Tryz.prog (GX X) 160 [xP 0 0, .fn (.func 174) [.box 0 0] [], xL (List.map e_str a2), xI a3] [oB 71 (bs (e_parse_reader a0))] (r_parse_reader_chain_parse_reader_factor r) (o_parse_reader_chain_parse_reader_factor r)) (ih_parse_reader_factor : ∀ (a0 : parse_reader) (r : (parse_reader × ast_Expr)), parse_reader_factorN n a0 = some r → Cs Tryz.prog (GX X) 174 [xP 0 0] [oB 71 (bs (e_parse_reader a0))] (r_parse_reader_factor r) (o_parse_reader_factor r)) (ih_parse_reader_negated : ∀ (a0 : parse_reader) (r : (parse_reader × ast_Expr)), parse_reader_negatedN n a0 = some r → Cs Tryz.prog (GX X) 183 [xP 0 0] [oB 71 (bs (e_parse_reader a0))] (r_parse_reader_negated r) (o_parse_reader_negated r)) (ih_parse_reader_parens : ∀ (a0 : parse_reader) (r : (parse_reader × ast_Expr)), parse_reader_parensN n a0 = some r → Cs Tryz.prog (GX X) 184 [xP 0 0] [oB 71 (bs (e_parse_reader a0))] (r_parse_reader_parens r) (o_parse_reader_parens r)) (a0 : parse_reader) (a2 : (List ByteArray)) (a3 : Int) (r : (parse_reader × ast_Expr)) (h : parse_reader_chain_parse_reader_factorN (n + 1) a0 a2 a3 = some r) : Cs Tryz.prog (GX X) 160 [xP 0 0, .fn (.func 174) [.box 0 0] [], xL (List.map e_str a2), xI a3] [oB 71 (bs (e_parse_reader a0))] (r_parse_reader_chain_parse_reader_factor r) (o_parse_reader_chain_parse_reader_factor r) := by
  refine fnT (cx := cx X) Tryz.f160 Tryz.call160 Tryz.func160 (by kernel_rfl) ?_
  rw [parse_reader_chain_parse_reader_factorN] at h
  obtain ⟨v1, k1, h⟩ := bindE h
  refine adv (ok X) 5 [.s (r_parse_reader_factor v1) (o_parse_reader_factor v1)] (pA (ih_parse_reader_factor _ _ k1) pT) (by kernel_rfl) ?_
  refine lp (ok X) (parse_reader_chain_parse_reader_factor_l1 (parse_reader_exprN n) (parse_reader_chain_parse_reader_termN n) (parse_reader_termN n) (parse_reader_chain_parse_reader_factorN n) (parse_reader_factorN n) (parse_reader_negatedN n) (parse_reader_parensN n) a2 a3) (fun (x1 : ((List lex_Token) × Int × Int × Int × Int × Int × Int × Int × ByteArray × (List ast_Expr))) => ⟨32, 1, [(0, [xP 0 0]), (1, [.fn (.func 174) [.box 0 0] []]), (2, [xL (List.map e_str a2)]), (3, [xI a3]), (8, [xP 1 0]), (9, [xP 2 0])], [oB 71 (bs (e_parse_reader (parse_reader.mk x1.1 x1.2.1 x1.2.2.1 x1.2.2.2.1 x1.2.2.2.2.1 x1.2.2.2.2.2.1))), oB 103 [.pv (.int .i64 0), .pv (.int .i64 0), .pv (.str (ByteArray.mk #[])), .emp], oB 103 (bs (f_ast_Expr (ast_Expr.mk x1.2.2.2.2.2.2.1 x1.2.2.2.2.2.2.2.1 x1.2.2.2.2.2.2.2.2.1 x1.2.2.2.2.2.2.2.2.2)))]⟩) (fun (j1 : ((List lex_Token) × Int × Int × Int × Int × Int × Int × Int × ByteArray × (List ast_Expr))) => ⟨32, 1, [(8, [xP 1 0]), (9, [xP 2 0])], [oB 71 (bs (e_parse_reader (parse_reader.mk j1.1 j1.2.1 j1.2.2.1 j1.2.2.2.1 j1.2.2.2.2.1 j1.2.2.2.2.2.1))), oB 103 [.pv (.int .i64 0), .pv (.int .i64 0), .pv (.str (ByteArray.mk #[])), .emp], oB 103 (bs (f_ast_Expr (ast_Expr.mk j1.2.2.2.2.2.2.1 j1.2.2.2.2.2.2.2.1 j1.2.2.2.2.2.2.2.2.1 j1.2.2.2.2.2.2.2.2.2)))]⟩) R_parse_reader_chain_parse_reader_factor (v1.1.f_l, v1.1.f_end, v1.1.f_e, v1.1.f_at, v1.1.f_deep, v1.1.f_in, v1.2.Kind, v1.2.Num, v1.2.Name, v1.2.Kids) (fun _ => ⟨_, _, _, _, rfl⟩) h (by kernel_rfl) (fun x1 o h => ?_) (fun r' h => ?_) (fun j1 h => ?_)
  · unfold parse_reader_chain_parse_reader_factor_l1 at h
    rcases iteE h with ⟨k2, h⟩ | ⟨k2, h⟩
    · obtain ⟨v2, k3, h⟩ := bindE h
      refine adv (ok X) 11 [.b true, .s (r_parse_reader_which v2) (o_parse_reader_which v2)] (pA k2 (pA (m_parse_reader_which (X := X) k3) pT)) (by kernel_rfl) ?_
      rcases iteE h with ⟨k4, h⟩ | ⟨k4, h⟩
      · obtain rfl := retE h
        exact fin (ok X) 2 [.b true] (pA k4 pT) (by kernel_rfl)
      · obtain ⟨v3, k5, h⟩ := bindE h
        obtain rfl := retE h
        exact fin (ok X) 4 [.b false, .o [0, 1, 2, 3, 4, 5, 6, 7, 8], .s (r_parse_reader_factor v3) (o_parse_reader_factor v3), .bl (List.map e_ast_Expr [(ast_Expr.mk x1.2.2.2.2.2.2.1 x1.2.2.2.2.2.2.2.1 x1.2.2.2.2.2.2.2.2.1 x1.2.2.2.2.2.2.2.2.2), v3.2])] (pA k4 (pA (ih_parse_reader_factor _ _ k5) (pA (blc (e := e_ast_Expr) (x := (ast_Expr.mk x1.2.2.2.2.2.2.1 x1.2.2.2.2.2.2.2.1 x1.2.2.2.2.2.2.2.2.1 x1.2.2.2.2.2.2.2.2.2)) (e_ast_Expr_eq _).symm (blc (e := e_ast_Expr) (x := v3.2) (e_ast_Expr_eq _).symm (bl0 e_ast_Expr))) pT))) (by kernel_rfl)
    · obtain rfl := retE h
      exact fin (ok X) 5 [.b false] (pA k2 pT) (by kernel_rfl)
  · cases h
  · obtain rfl := retE h
    exact fin (ok X) 3 [] pT (by kernel_rfl)

theorem s_parse_reader_factor {n : Nat} (ih_parse_reader_expr : ∀ (a0 : parse_reader) (r : (parse_reader × ast_Expr)), parse_reader_exprN n a0 = some r → Cs Tryz.prog (GX X) 141 [xP 0 0] [oB 71 (bs (e_parse_reader a0))] (r_parse_reader_expr r) (o_parse_reader_expr r)) (ih_parse_reader_chain_parse_reader_term : ∀ (a0 : parse_reader) (a2 : (List ByteArray)) (a3 : Int) (r : (parse_reader × ast_Expr)), parse_reader_chain_parse_reader_termN n a0 a2 a3 = some r → Cs Tryz.prog (GX X) 160 [xP 0 0, .fn (.func 161) [.box 0 0] [], xL (List.map e_str a2), xI a3] [oB 71 (bs (e_parse_reader a0))] (r_parse_reader_chain_parse_reader_term r) (o_parse_reader_chain_parse_reader_term r)) (ih_parse_reader_term : ∀ (a0 : parse_reader) (r : (parse_reader × ast_Expr)), parse_reader_termN n a0 = some r → Cs Tryz.prog (GX X) 161 [xP 0 0] [oB 71 (bs (e_parse_reader a0))] (r_parse_reader_term r) (o_parse_reader_term r)) (ih_parse_reader_chain_parse_reader_factor : ∀ (a0 : parse_reader) (a2 : (List ByteArray)) (a3 : Int) (r : (parse_reader × ast_Expr)), parse_reader_chain_parse_reader_factorN n a0 a2 a3 = some r → Cs Tryz.prog (GX X) 160 [xP 0 0, .fn (.func 174) [.box 0 0] [], xL (List.map e_str a2), xI a3] [oB 71 (bs (e_parse_reader a0))] (r_parse_reader_chain_parse_reader_factor r) (o_parse_reader_chain_parse_reader_factor r)) (ih_parse_reader_factor : ∀ (a0 : parse_reader) (r : (parse_reader × ast_Expr)), parse_reader_factorN n a0 = some r → Cs Tryz.prog (GX X) 174 [xP 0 0] [oB 71 (bs (e_parse_reader a0))] (r_parse_reader_factor r) (o_parse_reader_factor r)) (ih_parse_reader_negated : ∀ (a0 : parse_reader) (r : (parse_reader × ast_Expr)), parse_reader_negatedN n a0 = some r → Cs Tryz.prog (GX X) 183 [xP 0 0] [oB 71 (bs (e_parse_reader a0))] (r_parse_reader_negated r) (o_parse_reader_negated r)) (ih_parse_reader_parens : ∀ (a0 : parse_reader) (r : (parse_reader × ast_Expr)), parse_reader_parensN n a0 = some r → Cs Tryz.prog (GX X) 184 [xP 0 0] [oB 71 (bs (e_parse_reader a0))] (r_parse_reader_parens r) (o_parse_reader_parens r)) (a0 : parse_reader) (r : (parse_reader × ast_Expr)) (h : parse_reader_factorN (n + 1) a0 = some r) : Cs Tryz.prog (GX X) 174 [xP 0 0] [oB 71 (bs (e_parse_reader a0))] (r_parse_reader_factor r) (o_parse_reader_factor r) := by
  refine fnT (cx := cx X) Tryz.f174 Tryz.call174 Tryz.func174 (by kernel_rfl) ?_
  rw [parse_reader_factorN] at h
  obtain ⟨v1, k1, h⟩ := bindE h
  refine adv (ok X) 6 [.s (r_parse_reader_sees v1) (o_parse_reader_sees a0 v1)] (pA (m_parse_reader_sees (X := X) k1) pT) (by kernel_rfl) ?_
  rcases iteE h with ⟨k2, h⟩ | ⟨k2, h⟩
  · obtain ⟨v2, k3, h⟩ := bindE h
    obtain rfl := retE h
    exact fin (ok X) 4 [.b true, .s (r_parse_reader_negated v2) (o_parse_reader_negated v2)] (pA k2 (pA (ih_parse_reader_negated _ _ k3) pT)) (by kernel_rfl)
  · obtain ⟨v3, k4, h⟩ := bindE h
    refine adv (ok X) 3 [.b false, .s (r_parse_reader_sees v3) (o_parse_reader_sees a0 v3)] (pA k2 (pA (m_parse_reader_sees (X := X) k4) pT)) (by kernel_rfl) ?_
    rcases iteE h with ⟨k5, h⟩ | ⟨k5, h⟩
    · obtain ⟨v4, k6, h⟩ := bindE h
      obtain rfl := retE h
      exact fin (ok X) 4 [.b true, .s (r_parse_reader_parens v4) (o_parse_reader_parens v4)] (pA k5 (pA (ih_parse_reader_parens _ _ k6) pT)) (by kernel_rfl)
    · obtain ⟨v5, k7, h⟩ := bindE h
      refine adv (ok X) 3 [.b false, .s (r_parse_reader_of v5) (o_parse_reader_of a0 v5)] (pA k5 (pA (m_parse_reader_of (X := X) k7) pT)) (by kernel_rfl) ?_
      rcases iteE h with ⟨k8, h⟩ | ⟨k8, h⟩
      · obtain ⟨v6, k9, h⟩ := bindE h
        obtain rfl := retE h
        exact fin (ok X) 4 [.b true, .s (r_parse_reader_number v6) (o_parse_reader_number v6)] (pA k8 (pA (m_parse_reader_number (X := X) k9) pT)) (by kernel_rfl)
      · obtain ⟨v7, k10, h⟩ := bindE h
        obtain rfl := retE h
        exact fin (ok X) 6 [.b false, .s (r_parse_reader_name v7) (o_parse_reader_name v7)] (pA k8 (pA (m_parse_reader_name (X := X) k10) pT)) (by kernel_rfl)

theorem s_parse_reader_negated {n : Nat} (ih_parse_reader_expr : ∀ (a0 : parse_reader) (r : (parse_reader × ast_Expr)), parse_reader_exprN n a0 = some r → Cs Tryz.prog (GX X) 141 [xP 0 0] [oB 71 (bs (e_parse_reader a0))] (r_parse_reader_expr r) (o_parse_reader_expr r)) (ih_parse_reader_chain_parse_reader_term : ∀ (a0 : parse_reader) (a2 : (List ByteArray)) (a3 : Int) (r : (parse_reader × ast_Expr)), parse_reader_chain_parse_reader_termN n a0 a2 a3 = some r → Cs Tryz.prog (GX X) 160 [xP 0 0, .fn (.func 161) [.box 0 0] [], xL (List.map e_str a2), xI a3] [oB 71 (bs (e_parse_reader a0))] (r_parse_reader_chain_parse_reader_term r) (o_parse_reader_chain_parse_reader_term r)) (ih_parse_reader_term : ∀ (a0 : parse_reader) (r : (parse_reader × ast_Expr)), parse_reader_termN n a0 = some r → Cs Tryz.prog (GX X) 161 [xP 0 0] [oB 71 (bs (e_parse_reader a0))] (r_parse_reader_term r) (o_parse_reader_term r)) (ih_parse_reader_chain_parse_reader_factor : ∀ (a0 : parse_reader) (a2 : (List ByteArray)) (a3 : Int) (r : (parse_reader × ast_Expr)), parse_reader_chain_parse_reader_factorN n a0 a2 a3 = some r → Cs Tryz.prog (GX X) 160 [xP 0 0, .fn (.func 174) [.box 0 0] [], xL (List.map e_str a2), xI a3] [oB 71 (bs (e_parse_reader a0))] (r_parse_reader_chain_parse_reader_factor r) (o_parse_reader_chain_parse_reader_factor r)) (ih_parse_reader_factor : ∀ (a0 : parse_reader) (r : (parse_reader × ast_Expr)), parse_reader_factorN n a0 = some r → Cs Tryz.prog (GX X) 174 [xP 0 0] [oB 71 (bs (e_parse_reader a0))] (r_parse_reader_factor r) (o_parse_reader_factor r)) (ih_parse_reader_negated : ∀ (a0 : parse_reader) (r : (parse_reader × ast_Expr)), parse_reader_negatedN n a0 = some r → Cs Tryz.prog (GX X) 183 [xP 0 0] [oB 71 (bs (e_parse_reader a0))] (r_parse_reader_negated r) (o_parse_reader_negated r)) (ih_parse_reader_parens : ∀ (a0 : parse_reader) (r : (parse_reader × ast_Expr)), parse_reader_parensN n a0 = some r → Cs Tryz.prog (GX X) 184 [xP 0 0] [oB 71 (bs (e_parse_reader a0))] (r_parse_reader_parens r) (o_parse_reader_parens r)) (a0 : parse_reader) (r : (parse_reader × ast_Expr)) (h : parse_reader_negatedN (n + 1) a0 = some r) : Cs Tryz.prog (GX X) 183 [xP 0 0] [oB 71 (bs (e_parse_reader a0))] (r_parse_reader_negated r) (o_parse_reader_negated r) := by
  refine fnT (cx := cx X) Tryz.f183 Tryz.call183 Tryz.func183 (by kernel_rfl) ?_
  rw [parse_reader_negatedN] at h
  obtain ⟨v1, k1, h⟩ := bindE h
  refine adv (ok X) 5 [.s (r_parse_reader_opens v1) (o_parse_reader_opens v1)] (pA (m_parse_reader_opens (X := X) k1) pT) (by kernel_rfl) ?_
  rcases iteE h with ⟨k2, h⟩ | ⟨k2, h⟩
  · obtain rfl := retE h
    exact fin (ok X) 4 [.b true] (pA k2 pT) (by kernel_rfl)
  · obtain ⟨v2, k3, h⟩ := bindE h
    obtain ⟨v3, k4, h⟩ := bindE h
    obtain rfl := retE h
    exact fin (ok X) 11 [.b false, .s (r_parse_reader_must v2) (o_parse_reader_must v2), .s (r_parse_reader_factor v3) (o_parse_reader_factor v3), .bl (List.map e_ast_Expr [v3.2])] (pA k2 (pA (m_parse_reader_must (X := X) k3) (pA (ih_parse_reader_factor _ _ k4) (pA (blc (e := e_ast_Expr) (x := v3.2) (e_ast_Expr_eq _).symm (bl0 e_ast_Expr)) pT)))) (by kernel_rfl)

theorem s_parse_reader_parens {n : Nat} (ih_parse_reader_expr : ∀ (a0 : parse_reader) (r : (parse_reader × ast_Expr)), parse_reader_exprN n a0 = some r → Cs Tryz.prog (GX X) 141 [xP 0 0] [oB 71 (bs (e_parse_reader a0))] (r_parse_reader_expr r) (o_parse_reader_expr r)) (ih_parse_reader_chain_parse_reader_term : ∀ (a0 : parse_reader) (a2 : (List ByteArray)) (a3 : Int) (r : (parse_reader × ast_Expr)), parse_reader_chain_parse_reader_termN n a0 a2 a3 = some r → Cs Tryz.prog (GX X) 160 [xP 0 0, .fn (.func 161) [.box 0 0] [], xL (List.map e_str a2), xI a3] [oB 71 (bs (e_parse_reader a0))] (r_parse_reader_chain_parse_reader_term r) (o_parse_reader_chain_parse_reader_term r)) (ih_parse_reader_term : ∀ (a0 : parse_reader) (r : (parse_reader × ast_Expr)), parse_reader_termN n a0 = some r → Cs Tryz.prog (GX X) 161 [xP 0 0] [oB 71 (bs (e_parse_reader a0))] (r_parse_reader_term r) (o_parse_reader_term r)) (ih_parse_reader_chain_parse_reader_factor : ∀ (a0 : parse_reader) (a2 : (List ByteArray)) (a3 : Int) (r : (parse_reader × ast_Expr)), parse_reader_chain_parse_reader_factorN n a0 a2 a3 = some r → Cs Tryz.prog (GX X) 160 [xP 0 0, .fn (.func 174) [.box 0 0] [], xL (List.map e_str a2), xI a3] [oB 71 (bs (e_parse_reader a0))] (r_parse_reader_chain_parse_reader_factor r) (o_parse_reader_chain_parse_reader_factor r)) (ih_parse_reader_factor : ∀ (a0 : parse_reader) (r : (parse_reader × ast_Expr)), parse_reader_factorN n a0 = some r → Cs Tryz.prog (GX X) 174 [xP 0 0] [oB 71 (bs (e_parse_reader a0))] (r_parse_reader_factor r) (o_parse_reader_factor r)) (ih_parse_reader_negated : ∀ (a0 : parse_reader) (r : (parse_reader × ast_Expr)), parse_reader_negatedN n a0 = some r → Cs Tryz.prog (GX X) 183 [xP 0 0] [oB 71 (bs (e_parse_reader a0))] (r_parse_reader_negated r) (o_parse_reader_negated r)) (ih_parse_reader_parens : ∀ (a0 : parse_reader) (r : (parse_reader × ast_Expr)), parse_reader_parensN n a0 = some r → Cs Tryz.prog (GX X) 184 [xP 0 0] [oB 71 (bs (e_parse_reader a0))] (r_parse_reader_parens r) (o_parse_reader_parens r)) (a0 : parse_reader) (r : (parse_reader × ast_Expr)) (h : parse_reader_parensN (n + 1) a0 = some r) : Cs Tryz.prog (GX X) 184 [xP 0 0] [oB 71 (bs (e_parse_reader a0))] (r_parse_reader_parens r) (o_parse_reader_parens r) := by
  refine fnT (cx := cx X) Tryz.f184 Tryz.call184 Tryz.func184 (by kernel_rfl) ?_
  rw [parse_reader_parensN] at h
  obtain ⟨v1, k1, h⟩ := bindE h
  refine adv (ok X) 5 [.s (r_parse_reader_opens v1) (o_parse_reader_opens v1)] (pA (m_parse_reader_opens (X := X) k1) pT) (by kernel_rfl) ?_
  rcases iteE h with ⟨k2, h⟩ | ⟨k2, h⟩
  · obtain rfl := retE h
    exact fin (ok X) 4 [.b true] (pA k2 pT) (by kernel_rfl)
  · obtain ⟨v2, k3, h⟩ := bindE h
    obtain ⟨v3, k4, h⟩ := bindE h
    obtain ⟨v4, k5, h⟩ := bindE h
    obtain rfl := retE h
    exact fin (ok X) 13 [.b false, .s (r_parse_reader_must v2) (o_parse_reader_must v2), .s (r_parse_reader_expr v3) (o_parse_reader_expr v3), .s (r_parse_reader_must v4) (o_parse_reader_must v4)] (pA k2 (pA (m_parse_reader_must (X := X) k3) (pA (ih_parse_reader_expr _ _ k4) (pA (m_parse_reader_must (X := X) k5) pT)))) (by kernel_rfl)

theorem all_parse_reader_expr : ∀ n : Nat, (∀ (a0 : parse_reader) (r : (parse_reader × ast_Expr)), parse_reader_exprN n a0 = some r → Cs Tryz.prog (GX X) 141 [xP 0 0] [oB 71 (bs (e_parse_reader a0))] (r_parse_reader_expr r) (o_parse_reader_expr r)) ∧ (∀ (a0 : parse_reader) (a2 : (List ByteArray)) (a3 : Int) (r : (parse_reader × ast_Expr)), parse_reader_chain_parse_reader_termN n a0 a2 a3 = some r → Cs Tryz.prog (GX X) 160 [xP 0 0, .fn (.func 161) [.box 0 0] [], xL (List.map e_str a2), xI a3] [oB 71 (bs (e_parse_reader a0))] (r_parse_reader_chain_parse_reader_term r) (o_parse_reader_chain_parse_reader_term r)) ∧ (∀ (a0 : parse_reader) (r : (parse_reader × ast_Expr)), parse_reader_termN n a0 = some r → Cs Tryz.prog (GX X) 161 [xP 0 0] [oB 71 (bs (e_parse_reader a0))] (r_parse_reader_term r) (o_parse_reader_term r)) ∧ (∀ (a0 : parse_reader) (a2 : (List ByteArray)) (a3 : Int) (r : (parse_reader × ast_Expr)), parse_reader_chain_parse_reader_factorN n a0 a2 a3 = some r → Cs Tryz.prog (GX X) 160 [xP 0 0, .fn (.func 174) [.box 0 0] [], xL (List.map e_str a2), xI a3] [oB 71 (bs (e_parse_reader a0))] (r_parse_reader_chain_parse_reader_factor r) (o_parse_reader_chain_parse_reader_factor r)) ∧ (∀ (a0 : parse_reader) (r : (parse_reader × ast_Expr)), parse_reader_factorN n a0 = some r → Cs Tryz.prog (GX X) 174 [xP 0 0] [oB 71 (bs (e_parse_reader a0))] (r_parse_reader_factor r) (o_parse_reader_factor r)) ∧ (∀ (a0 : parse_reader) (r : (parse_reader × ast_Expr)), parse_reader_negatedN n a0 = some r → Cs Tryz.prog (GX X) 183 [xP 0 0] [oB 71 (bs (e_parse_reader a0))] (r_parse_reader_negated r) (o_parse_reader_negated r)) ∧ (∀ (a0 : parse_reader) (r : (parse_reader × ast_Expr)), parse_reader_parensN n a0 = some r → Cs Tryz.prog (GX X) 184 [xP 0 0] [oB 71 (bs (e_parse_reader a0))] (r_parse_reader_parens r) (o_parse_reader_parens r))
  | 0 => ⟨(fun _ _ h => by rw [parse_reader_exprN] at h; cases h), (fun _ _ _ _ h => by rw [parse_reader_chain_parse_reader_termN] at h; cases h), (fun _ _ h => by rw [parse_reader_termN] at h; cases h), (fun _ _ _ _ h => by rw [parse_reader_chain_parse_reader_factorN] at h; cases h), (fun _ _ h => by rw [parse_reader_factorN] at h; cases h), (fun _ _ h => by rw [parse_reader_negatedN] at h; cases h), (fun _ _ h => by rw [parse_reader_parensN] at h; cases h)⟩
  | n + 1 => by
    have ih := all_parse_reader_expr n
    exact ⟨s_parse_reader_expr ih.1 ih.2.1 ih.2.2.1 ih.2.2.2.1 ih.2.2.2.2.1 ih.2.2.2.2.2.1 ih.2.2.2.2.2.2, s_parse_reader_chain_parse_reader_term ih.1 ih.2.1 ih.2.2.1 ih.2.2.2.1 ih.2.2.2.2.1 ih.2.2.2.2.2.1 ih.2.2.2.2.2.2, s_parse_reader_term ih.1 ih.2.1 ih.2.2.1 ih.2.2.2.1 ih.2.2.2.2.1 ih.2.2.2.2.2.1 ih.2.2.2.2.2.2, s_parse_reader_chain_parse_reader_factor ih.1 ih.2.1 ih.2.2.1 ih.2.2.2.1 ih.2.2.2.2.1 ih.2.2.2.2.2.1 ih.2.2.2.2.2.2, s_parse_reader_factor ih.1 ih.2.1 ih.2.2.1 ih.2.2.2.1 ih.2.2.2.2.1 ih.2.2.2.2.2.1 ih.2.2.2.2.2.2, s_parse_reader_negated ih.1 ih.2.1 ih.2.2.1 ih.2.2.2.1 ih.2.2.2.2.1 ih.2.2.2.2.2.1 ih.2.2.2.2.2.2, s_parse_reader_parens ih.1 ih.2.1 ih.2.2.1 ih.2.2.2.1 ih.2.2.2.2.1 ih.2.2.2.2.2.1 ih.2.2.2.2.2.2⟩

theorem m_parse_reader_expr {a0 : parse_reader} {r : (parse_reader × ast_Expr)} (h : parse_reader_expr a0 = some r) : Cs Tryz.prog (GX X) 141 [xP 0 0] [oB 71 (bs (e_parse_reader a0))] (r_parse_reader_expr r) (o_parse_reader_expr r) := by
  obtain ⟨n, hn⟩ := unfE h
  exact (all_parse_reader_expr n).1 _ _ hn

theorem m_parse_reader_send {a0 : parse_reader} {r : (parse_reader × ast_Stmt)} (h : parse_reader_send a0 = some r) : Cs Tryz.prog (GX X) 118 [xP 0 0] [oB 71 (bs (e_parse_reader a0))] (r_parse_reader_send r) (o_parse_reader_send r) := by
  refine fnT (cx := cx X) Tryz.f118 Tryz.call118 Tryz.func118 (by kernel_rfl) ?_
  unfold parse_reader_send at h
  obtain ⟨v1, k1, h⟩ := bindE h
  obtain ⟨v2, k2, h⟩ := bindE h
  obtain ⟨v3, k3, h⟩ := bindE h
  obtain ⟨v4, k4, h⟩ := bindE h
  obtain ⟨v5, k5, h⟩ := bindE h
  obtain ⟨v6, k6, h⟩ := bindE h
  obtain ⟨v7, k7, h⟩ := bindE h
  obtain rfl := retE h
  exact fin (ok X) 19 [.s (r_parse_reader_name v1) (o_parse_reader_name v1), .s (r_parse_reader_must v2) (o_parse_reader_must v2), .s (r_parse_reader_name v3) (o_parse_reader_name v3), .s (r_parse_reader_must v4) (o_parse_reader_must v4), .s (r_parse_reader_expr v5) (o_parse_reader_expr v5), .s (r_parse_reader_must v6) (o_parse_reader_must v6), .s (r_parse_reader_must v7) (o_parse_reader_must v7)] (pA (m_parse_reader_name (X := X) k1) (pA (m_parse_reader_must (X := X) k2) (pA (m_parse_reader_name (X := X) k3) (pA (m_parse_reader_must (X := X) k4) (pA (m_parse_reader_expr (X := X) k5) (pA (m_parse_reader_must (X := X) k6) (pA (m_parse_reader_must (X := X) k7) pT))))))) (by kernel_rfl)

theorem m_parse_reader_cond {a0 : parse_reader} {r : (parse_reader × ast_Cond)} (h : parse_reader_cond a0 = some r) : Cs Tryz.prog (GX X) 139 [xP 0 0] [oB 71 (bs (e_parse_reader a0))] (r_parse_reader_cond r) (o_parse_reader_cond r) := by
  refine fnT (cx := cx X) Tryz.f139 Tryz.call139 Tryz.func139 (by kernel_rfl) ?_
  unfold parse_reader_cond at h
  obtain ⟨v1, k1, h⟩ := bindE h
  obtain ⟨v2, k2, h⟩ := bindE h
  obtain ⟨v3, k3, h⟩ := bindE h
  refine adv (ok X) 11 [.s (r_parse_reader_must v1) (o_parse_reader_must v1), .s (r_parse_reader_expr v2) (o_parse_reader_expr v2), .s (r_parse_reader_which v3) (o_parse_reader_which v3)] (pA (m_parse_reader_must (X := X) k1) (pA (m_parse_reader_expr (X := X) k2) (pA (m_parse_reader_which (X := X) k3) pT))) (by kernel_rfl) ?_
  rcases iteE h with ⟨k4, h⟩ | ⟨k4, h⟩
  · obtain ⟨v4, k5, h⟩ := bindE h
    obtain rfl := retE h
    exact fin (ok X) 6 [.b true, .s (r_parse_reader_fail v4) (o_parse_reader_fail v4)] (pA k4 (pA (m_parse_reader_fail (X := X) k5) pT)) (by kernel_rfl)
  · obtain ⟨v5, k6, h⟩ := bindE h
    obtain ⟨v6, k7, h⟩ := bindE h
    obtain rfl := retE h
    exact fin (ok X) 11 [.b false, .s (r_parse_reader_expr v5) (o_parse_reader_expr v5), .s (r_parse_reader_must v6) (o_parse_reader_must v6)] (pA k4 (pA (m_parse_reader_expr (X := X) k6) (pA (m_parse_reader_must (X := X) k7) pT))) (by kernel_rfl)

theorem m_parse_reader_assert {a0 : parse_reader} {r : (parse_reader × ast_Stmt)} (h : parse_reader_assert a0 = some r) : Cs Tryz.prog (GX X) 120 [xP 0 0] [oB 71 (bs (e_parse_reader a0))] (r_parse_reader_assert r) (o_parse_reader_assert r) := by
  refine fnT (cx := cx X) Tryz.f120 Tryz.call120 Tryz.func120 (by kernel_rfl) ?_
  unfold parse_reader_assert at h
  obtain ⟨v1, k1, h⟩ := bindE h
  obtain ⟨v2, k2, h⟩ := bindE h
  obtain rfl := retE h
  exact fin (ok X) 9 [.s (r_parse_reader_cond v1) (o_parse_reader_cond v1), .s (r_parse_reader_must v2) (o_parse_reader_must v2)] (pA (m_parse_reader_cond (X := X) k1) (pA (m_parse_reader_must (X := X) k2) pT)) (by kernel_rfl)

theorem m_parse_reader_input {a0 : parse_reader} {r : (parse_reader × ast_Stmt)} (h : parse_reader_input a0 = some r) : Cs Tryz.prog (GX X) 121 [xP 0 0] [oB 71 (bs (e_parse_reader a0))] (r_parse_reader_input r) (o_parse_reader_input r) := by
  refine fnT (cx := cx X) Tryz.f121 Tryz.call121 Tryz.func121 (by kernel_rfl) ?_
  unfold parse_reader_input at h
  obtain ⟨v1, k1, h⟩ := bindE h
  obtain ⟨v2, k2, h⟩ := bindE h
  obtain rfl := retE h
  exact fin (ok X) 9 [.s (r_parse_reader_name v1) (o_parse_reader_name v1), .s (r_parse_reader_must v2) (o_parse_reader_must v2)] (pA (m_parse_reader_name (X := X) k1) (pA (m_parse_reader_must (X := X) k2) pT)) (by kernel_rfl)

theorem m_parse_reader_assign {a0 : parse_reader} {r : (parse_reader × ast_Stmt)} (h : parse_reader_assign a0 = some r) : Cs Tryz.prog (GX X) 122 [xP 0 0] [oB 71 (bs (e_parse_reader a0))] (r_parse_reader_assign r) (o_parse_reader_assign r) := by
  refine fnT (cx := cx X) Tryz.f122 Tryz.call122 Tryz.func122 (by kernel_rfl) ?_
  unfold parse_reader_assign at h
  obtain ⟨v1, k1, h⟩ := bindE h
  obtain ⟨v2, k2, h⟩ := bindE h
  obtain ⟨v3, k3, h⟩ := bindE h
  obtain ⟨v4, k4, h⟩ := bindE h
  obtain rfl := retE h
  exact fin (ok X) 13 [.s (r_parse_reader_name v1) (o_parse_reader_name v1), .s (r_parse_reader_must v2) (o_parse_reader_must v2), .s (r_parse_reader_expr v3) (o_parse_reader_expr v3), .s (r_parse_reader_must v4) (o_parse_reader_must v4)] (pA (m_parse_reader_name (X := X) k1) (pA (m_parse_reader_must (X := X) k2) (pA (m_parse_reader_expr (X := X) k3) (pA (m_parse_reader_must (X := X) k4) pT)))) (by kernel_rfl)

theorem s_parse_reader_stmts {n : Nat} (ih_parse_reader_stmts : ∀ (a0 : parse_reader) (r : (parse_reader × (List ast_Stmt))), parse_reader_stmtsN n a0 = some r → Cs Tryz.prog (GX X) 61 [xP 0 0] [oB 71 (bs (e_parse_reader a0))] (r_parse_reader_stmts r) (o_parse_reader_stmts r)) (ih_parse_reader_stmt : ∀ (a0 : parse_reader) (r : (parse_reader × ast_Stmt × Bool)), parse_reader_stmtN n a0 = some r → Cs Tryz.prog (GX X) 98 [xP 0 0] [oB 71 (bs (e_parse_reader a0))] (r_parse_reader_stmt r) (o_parse_reader_stmt r)) (ih_parse_reader_conditional : ∀ (a0 : parse_reader) (r : (parse_reader × ast_Stmt)), parse_reader_conditionalN n a0 = some r → Cs Tryz.prog (GX X) 116 [xP 0 0] [oB 71 (bs (e_parse_reader a0))] (r_parse_reader_conditional r) (o_parse_reader_conditional r)) (ih_parse_reader_loop : ∀ (a0 : parse_reader) (r : (parse_reader × ast_Stmt)), parse_reader_loopN n a0 = some r → Cs Tryz.prog (GX X) 117 [xP 0 0] [oB 71 (bs (e_parse_reader a0))] (r_parse_reader_loop r) (o_parse_reader_loop r)) (ih_parse_reader_recv : ∀ (a0 : parse_reader) (r : (parse_reader × ast_Stmt)), parse_reader_recvN n a0 = some r → Cs Tryz.prog (GX X) 119 [xP 0 0] [oB 71 (bs (e_parse_reader a0))] (r_parse_reader_recv r) (o_parse_reader_recv r)) (ih_parse_reader_block : ∀ (a0 : parse_reader) (r : (parse_reader × (List ast_Stmt))), parse_reader_blockN n a0 = some r → Cs Tryz.prog (GX X) 140 [xP 0 0] [oB 71 (bs (e_parse_reader a0))] (r_parse_reader_block r) (o_parse_reader_block r)) (ih_parse_reader_arm : ∀ (a0 : parse_reader) (r : (parse_reader × ast_Arm)), parse_reader_armN n a0 = some r → Cs Tryz.prog (GX X) 142 [xP 0 0] [oB 71 (bs (e_parse_reader a0))] (r_parse_reader_arm r) (o_parse_reader_arm r)) (a0 : parse_reader) (r : (parse_reader × (List ast_Stmt))) (h : parse_reader_stmtsN (n + 1) a0 = some r) : Cs Tryz.prog (GX X) 61 [xP 0 0] [oB 71 (bs (e_parse_reader a0))] (r_parse_reader_stmts r) (o_parse_reader_stmts r) := by
  refine fnT (cx := cx X) Tryz.f61 Tryz.call61 Tryz.func61 (by kernel_rfl) ?_
  rw [parse_reader_stmtsN] at h
  refine adv (ok X) 4 [] pT (by kernel_rfl) ?_
  refine lp (ok X) (parse_reader_stmts_l1 (parse_reader_stmtsN n) (parse_reader_stmtN n) (parse_reader_conditionalN n) (parse_reader_loopN n) (parse_reader_recvN n) (parse_reader_blockN n) (parse_reader_armN n)) (fun (x1 : ((List lex_Token) × Int × Int × Int × Int × Int × (List ast_Stmt))) => ⟨18, 1, [(0, [xP 0 0]), (3, [xR 1])], [oB 71 (bs (e_parse_reader (parse_reader.mk x1.1 x1.2.1 x1.2.2.1 x1.2.2.2.1 x1.2.2.2.2.1 x1.2.2.2.2.2.1))), oR true 108 19 (List.map e_ast_Stmt x1.2.2.2.2.2.2)]⟩) (fun (j1 : Unit) => ⟨18, 1, [], [none]⟩) R_parse_reader_stmts (a0.f_l, a0.f_end, a0.f_e, a0.f_at, a0.f_deep, a0.f_in, []) (fun _ => ⟨_, _, _, _, rfl⟩) h (by kernel_rfl) (fun x1 o h => ?_) (fun r' h => ?_) (fun j1 h => ?_)
  · unfold parse_reader_stmts_l1 at h
    obtain ⟨v1, k1, h⟩ := bindE h
    refine adv (ok X) 6 [.s (r_parse_reader_stmt v1) (o_parse_reader_stmt v1)] (pA (ih_parse_reader_stmt _ _ k1) pT) (by kernel_rfl) ?_
    rcases iteE h with ⟨k2, h⟩ | ⟨k2, h⟩
    · obtain rfl := retE h
      exact fin (ok X) 4 [.b true] (pA k2 pT) (by kernel_rfl)
    · obtain ⟨v2, k3, h⟩ := bindE h
      obtain rfl := retE h
      exact fin (ok X) 4 [.b false, .bl (List.map e_ast_Stmt [v1.2.1]), .l (List.map e_ast_Stmt v2)] (pA k2 (pA (blc (e := e_ast_Stmt) (x := v1.2.1) (e_ast_Stmt_eq _).symm (bl0 e_ast_Stmt)) (pA (apm (L := x1.2.2.2.2.2.2) (M := [v1.2.1]) e_ast_Stmt_len k3) pT))) (by kernel_rfl)
  · obtain rfl := retE h
    kernel_rfl
  · cases h

theorem s_parse_reader_stmt {n : Nat} (ih_parse_reader_stmts : ∀ (a0 : parse_reader) (r : (parse_reader × (List ast_Stmt))), parse_reader_stmtsN n a0 = some r → Cs Tryz.prog (GX X) 61 [xP 0 0] [oB 71 (bs (e_parse_reader a0))] (r_parse_reader_stmts r) (o_parse_reader_stmts r)) (ih_parse_reader_stmt : ∀ (a0 : parse_reader) (r : (parse_reader × ast_Stmt × Bool)), parse_reader_stmtN n a0 = some r → Cs Tryz.prog (GX X) 98 [xP 0 0] [oB 71 (bs (e_parse_reader a0))] (r_parse_reader_stmt r) (o_parse_reader_stmt r)) (ih_parse_reader_conditional : ∀ (a0 : parse_reader) (r : (parse_reader × ast_Stmt)), parse_reader_conditionalN n a0 = some r → Cs Tryz.prog (GX X) 116 [xP 0 0] [oB 71 (bs (e_parse_reader a0))] (r_parse_reader_conditional r) (o_parse_reader_conditional r)) (ih_parse_reader_loop : ∀ (a0 : parse_reader) (r : (parse_reader × ast_Stmt)), parse_reader_loopN n a0 = some r → Cs Tryz.prog (GX X) 117 [xP 0 0] [oB 71 (bs (e_parse_reader a0))] (r_parse_reader_loop r) (o_parse_reader_loop r)) (ih_parse_reader_recv : ∀ (a0 : parse_reader) (r : (parse_reader × ast_Stmt)), parse_reader_recvN n a0 = some r → Cs Tryz.prog (GX X) 119 [xP 0 0] [oB 71 (bs (e_parse_reader a0))] (r_parse_reader_recv r) (o_parse_reader_recv r)) (ih_parse_reader_block : ∀ (a0 : parse_reader) (r : (parse_reader × (List ast_Stmt))), parse_reader_blockN n a0 = some r → Cs Tryz.prog (GX X) 140 [xP 0 0] [oB 71 (bs (e_parse_reader a0))] (r_parse_reader_block r) (o_parse_reader_block r)) (ih_parse_reader_arm : ∀ (a0 : parse_reader) (r : (parse_reader × ast_Arm)), parse_reader_armN n a0 = some r → Cs Tryz.prog (GX X) 142 [xP 0 0] [oB 71 (bs (e_parse_reader a0))] (r_parse_reader_arm r) (o_parse_reader_arm r)) (a0 : parse_reader) (r : (parse_reader × ast_Stmt × Bool)) (h : parse_reader_stmtN (n + 1) a0 = some r) : Cs Tryz.prog (GX X) 98 [xP 0 0] [oB 71 (bs (e_parse_reader a0))] (r_parse_reader_stmt r) (o_parse_reader_stmt r) := by
  refine fnT (cx := cx X) Tryz.f98 Tryz.call98 Tryz.func98 (by kernel_rfl) ?_
  rw [parse_reader_stmtN] at h
  obtain ⟨v1, k1, h⟩ := bindE h
  refine adv (ok X) 6 [.s (r_parse_reader_skip v1) (o_parse_reader_skip v1)] (pA (m_parse_reader_skip (X := X) k1) pT) (by kernel_rfl) ?_
  rcases iteE h with ⟨k2, h⟩ | ⟨k2, h⟩
  · obtain ⟨v2, k3, h⟩ := bindE h
    obtain rfl := retE h
    exact fin (ok X) 4 [.b true, .s (r_parse_reader_conditional v2) (o_parse_reader_conditional v2)] (pA k2 (pA (ih_parse_reader_conditional _ _ k3) pT)) (by kernel_rfl)
  · obtain ⟨v3, k4, h⟩ := bindE h
    refine adv (ok X) 3 [.b false, .s (r_parse_reader_skip v3) (o_parse_reader_skip v3)] (pA k2 (pA (m_parse_reader_skip (X := X) k4) pT)) (by kernel_rfl) ?_
    rcases iteE h with ⟨k5, h⟩ | ⟨k5, h⟩
    · obtain ⟨v4, k6, h⟩ := bindE h
      obtain rfl := retE h
      exact fin (ok X) 4 [.b true, .s (r_parse_reader_loop v4) (o_parse_reader_loop v4)] (pA k5 (pA (ih_parse_reader_loop _ _ k6) pT)) (by kernel_rfl)
    · obtain ⟨v5, k7, h⟩ := bindE h
      refine adv (ok X) 3 [.b false, .s (r_parse_reader_skip v5) (o_parse_reader_skip v5)] (pA k5 (pA (m_parse_reader_skip (X := X) k7) pT)) (by kernel_rfl) ?_
      rcases iteE h with ⟨k8, h⟩ | ⟨k8, h⟩
      · obtain ⟨v6, k9, h⟩ := bindE h
        obtain rfl := retE h
        exact fin (ok X) 4 [.b true, .s (r_parse_reader_send v6) (o_parse_reader_send v6)] (pA k8 (pA (m_parse_reader_send (X := X) k9) pT)) (by kernel_rfl)
      · obtain ⟨v7, k10, h⟩ := bindE h
        refine adv (ok X) 3 [.b false, .s (r_parse_reader_skip v7) (o_parse_reader_skip v7)] (pA k8 (pA (m_parse_reader_skip (X := X) k10) pT)) (by kernel_rfl) ?_
        rcases iteE h with ⟨k11, h⟩ | ⟨k11, h⟩
        · obtain ⟨v8, k12, h⟩ := bindE h
          obtain rfl := retE h
          exact fin (ok X) 4 [.b true, .s (r_parse_reader_recv v8) (o_parse_reader_recv v8)] (pA k11 (pA (ih_parse_reader_recv _ _ k12) pT)) (by kernel_rfl)
        · obtain ⟨v9, k13, h⟩ := bindE h
          refine adv (ok X) 3 [.b false, .s (r_parse_reader_skip v9) (o_parse_reader_skip v9)] (pA k11 (pA (m_parse_reader_skip (X := X) k13) pT)) (by kernel_rfl) ?_
          rcases iteE h with ⟨k14, h⟩ | ⟨k14, h⟩
          · obtain ⟨v10, k15, h⟩ := bindE h
            obtain rfl := retE h
            exact fin (ok X) 4 [.b true, .s (r_parse_reader_assert v10) (o_parse_reader_assert v10)] (pA k14 (pA (m_parse_reader_assert (X := X) k15) pT)) (by kernel_rfl)
          · obtain ⟨v11, k16, h⟩ := bindE h
            refine adv (ok X) 3 [.b false, .s (r_parse_reader_skip v11) (o_parse_reader_skip v11)] (pA k14 (pA (m_parse_reader_skip (X := X) k16) pT)) (by kernel_rfl) ?_
            rcases iteE h with ⟨k17, h⟩ | ⟨k17, h⟩
            · obtain ⟨v12, k18, h⟩ := bindE h
              obtain rfl := retE h
              exact fin (ok X) 4 [.b true, .s (r_parse_reader_input v12) (o_parse_reader_input v12)] (pA k17 (pA (m_parse_reader_input (X := X) k18) pT)) (by kernel_rfl)
            · obtain ⟨v13, k19, h⟩ := bindE h
              refine adv (ok X) 3 [.b false, .s (r_parse_reader_of v13) (o_parse_reader_of v11.1 v13)] (pA k17 (pA (m_parse_reader_of (X := X) k19) pT)) (by kernel_rfl) ?_
              rcases iteE h with ⟨k20, h⟩ | ⟨k20, h⟩
              · obtain ⟨v14, k21, h⟩ := bindE h
                obtain rfl := retE h
                exact fin (ok X) 4 [.b true, .s (r_parse_reader_assign v14) (o_parse_reader_assign v14)] (pA k20 (pA (m_parse_reader_assign (X := X) k21) pT)) (by kernel_rfl)
              · obtain rfl := retE h
                exact fin (ok X) 6 [.b false] (pA k20 pT) (by kernel_rfl)

theorem s_parse_reader_conditional {n : Nat} (ih_parse_reader_stmts : ∀ (a0 : parse_reader) (r : (parse_reader × (List ast_Stmt))), parse_reader_stmtsN n a0 = some r → Cs Tryz.prog (GX X) 61 [xP 0 0] [oB 71 (bs (e_parse_reader a0))] (r_parse_reader_stmts r) (o_parse_reader_stmts r)) (ih_parse_reader_stmt : ∀ (a0 : parse_reader) (r : (parse_reader × ast_Stmt × Bool)), parse_reader_stmtN n a0 = some r → Cs Tryz.prog (GX X) 98 [xP 0 0] [oB 71 (bs (e_parse_reader a0))] (r_parse_reader_stmt r) (o_parse_reader_stmt r)) (ih_parse_reader_conditional : ∀ (a0 : parse_reader) (r : (parse_reader × ast_Stmt)), parse_reader_conditionalN n a0 = some r → Cs Tryz.prog (GX X) 116 [xP 0 0] [oB 71 (bs (e_parse_reader a0))] (r_parse_reader_conditional r) (o_parse_reader_conditional r)) (ih_parse_reader_loop : ∀ (a0 : parse_reader) (r : (parse_reader × ast_Stmt)), parse_reader_loopN n a0 = some r → Cs Tryz.prog (GX X) 117 [xP 0 0] [oB 71 (bs (e_parse_reader a0))] (r_parse_reader_loop r) (o_parse_reader_loop r)) (ih_parse_reader_recv : ∀ (a0 : parse_reader) (r : (parse_reader × ast_Stmt)), parse_reader_recvN n a0 = some r → Cs Tryz.prog (GX X) 119 [xP 0 0] [oB 71 (bs (e_parse_reader a0))] (r_parse_reader_recv r) (o_parse_reader_recv r)) (ih_parse_reader_block : ∀ (a0 : parse_reader) (r : (parse_reader × (List ast_Stmt))), parse_reader_blockN n a0 = some r → Cs Tryz.prog (GX X) 140 [xP 0 0] [oB 71 (bs (e_parse_reader a0))] (r_parse_reader_block r) (o_parse_reader_block r)) (ih_parse_reader_arm : ∀ (a0 : parse_reader) (r : (parse_reader × ast_Arm)), parse_reader_armN n a0 = some r → Cs Tryz.prog (GX X) 142 [xP 0 0] [oB 71 (bs (e_parse_reader a0))] (r_parse_reader_arm r) (o_parse_reader_arm r)) (a0 : parse_reader) (r : (parse_reader × ast_Stmt)) (h : parse_reader_conditionalN (n + 1) a0 = some r) : Cs Tryz.prog (GX X) 116 [xP 0 0] [oB 71 (bs (e_parse_reader a0))] (r_parse_reader_conditional r) (o_parse_reader_conditional r) := by
  refine fnT (cx := cx X) Tryz.f116 Tryz.call116 Tryz.func116 (by kernel_rfl) ?_
  rw [parse_reader_conditionalN] at h
  obtain ⟨v1, k1, h⟩ := bindE h
  obtain ⟨v2, k2, h⟩ := bindE h
  obtain ⟨v3, k3, h⟩ := bindE h
  refine adv (ok X) 9 [.s (r_parse_reader_cond v1) (o_parse_reader_cond v1), .s (r_parse_reader_block v2) (o_parse_reader_block v2), .s (r_parse_reader_skip v3) (o_parse_reader_skip v3)] (pA (m_parse_reader_cond (X := X) k1) (pA (ih_parse_reader_block _ _ k2) (pA (m_parse_reader_skip (X := X) k3) pT))) (by kernel_rfl) ?_
  rcases iteE h with ⟨k4, h⟩ | ⟨k4, h⟩
  · obtain ⟨v4, k5, h⟩ := bindE h
    obtain rfl := retE h
    exact fin (ok X) 5 [.b true, .s (r_parse_reader_block v4) (o_parse_reader_block v4)] (pA k4 (pA (ih_parse_reader_block _ _ k5) pT)) (by kernel_rfl)
  · obtain rfl := retE h
    exact fin (ok X) 5 [.b false] (pA k4 pT) (by kernel_rfl)

theorem s_parse_reader_loop {n : Nat} (ih_parse_reader_stmts : ∀ (a0 : parse_reader) (r : (parse_reader × (List ast_Stmt))), parse_reader_stmtsN n a0 = some r → Cs Tryz.prog (GX X) 61 [xP 0 0] [oB 71 (bs (e_parse_reader a0))] (r_parse_reader_stmts r) (o_parse_reader_stmts r)) (ih_parse_reader_stmt : ∀ (a0 : parse_reader) (r : (parse_reader × ast_Stmt × Bool)), parse_reader_stmtN n a0 = some r → Cs Tryz.prog (GX X) 98 [xP 0 0] [oB 71 (bs (e_parse_reader a0))] (r_parse_reader_stmt r) (o_parse_reader_stmt r)) (ih_parse_reader_conditional : ∀ (a0 : parse_reader) (r : (parse_reader × ast_Stmt)), parse_reader_conditionalN n a0 = some r → Cs Tryz.prog (GX X) 116 [xP 0 0] [oB 71 (bs (e_parse_reader a0))] (r_parse_reader_conditional r) (o_parse_reader_conditional r)) (ih_parse_reader_loop : ∀ (a0 : parse_reader) (r : (parse_reader × ast_Stmt)), parse_reader_loopN n a0 = some r → Cs Tryz.prog (GX X) 117 [xP 0 0] [oB 71 (bs (e_parse_reader a0))] (r_parse_reader_loop r) (o_parse_reader_loop r)) (ih_parse_reader_recv : ∀ (a0 : parse_reader) (r : (parse_reader × ast_Stmt)), parse_reader_recvN n a0 = some r → Cs Tryz.prog (GX X) 119 [xP 0 0] [oB 71 (bs (e_parse_reader a0))] (r_parse_reader_recv r) (o_parse_reader_recv r)) (ih_parse_reader_block : ∀ (a0 : parse_reader) (r : (parse_reader × (List ast_Stmt))), parse_reader_blockN n a0 = some r → Cs Tryz.prog (GX X) 140 [xP 0 0] [oB 71 (bs (e_parse_reader a0))] (r_parse_reader_block r) (o_parse_reader_block r)) (ih_parse_reader_arm : ∀ (a0 : parse_reader) (r : (parse_reader × ast_Arm)), parse_reader_armN n a0 = some r → Cs Tryz.prog (GX X) 142 [xP 0 0] [oB 71 (bs (e_parse_reader a0))] (r_parse_reader_arm r) (o_parse_reader_arm r)) (a0 : parse_reader) (r : (parse_reader × ast_Stmt)) (h : parse_reader_loopN (n + 1) a0 = some r) : Cs Tryz.prog (GX X) 117 [xP 0 0] [oB 71 (bs (e_parse_reader a0))] (r_parse_reader_loop r) (o_parse_reader_loop r) := by
  refine fnT (cx := cx X) Tryz.f117 Tryz.call117 Tryz.func117 (by kernel_rfl) ?_
  rw [parse_reader_loopN] at h
  obtain ⟨v1, k1, h⟩ := bindE h
  obtain ⟨v2, k2, h⟩ := bindE h
  obtain rfl := retE h
  exact fin (ok X) 9 [.s (r_parse_reader_cond v1) (o_parse_reader_cond v1), .s (r_parse_reader_block v2) (o_parse_reader_block v2)] (pA (m_parse_reader_cond (X := X) k1) (pA (ih_parse_reader_block _ _ k2) pT)) (by kernel_rfl)

theorem s_parse_reader_recv {n : Nat} (ih_parse_reader_stmts : ∀ (a0 : parse_reader) (r : (parse_reader × (List ast_Stmt))), parse_reader_stmtsN n a0 = some r → Cs Tryz.prog (GX X) 61 [xP 0 0] [oB 71 (bs (e_parse_reader a0))] (r_parse_reader_stmts r) (o_parse_reader_stmts r)) (ih_parse_reader_stmt : ∀ (a0 : parse_reader) (r : (parse_reader × ast_Stmt × Bool)), parse_reader_stmtN n a0 = some r → Cs Tryz.prog (GX X) 98 [xP 0 0] [oB 71 (bs (e_parse_reader a0))] (r_parse_reader_stmt r) (o_parse_reader_stmt r)) (ih_parse_reader_conditional : ∀ (a0 : parse_reader) (r : (parse_reader × ast_Stmt)), parse_reader_conditionalN n a0 = some r → Cs Tryz.prog (GX X) 116 [xP 0 0] [oB 71 (bs (e_parse_reader a0))] (r_parse_reader_conditional r) (o_parse_reader_conditional r)) (ih_parse_reader_loop : ∀ (a0 : parse_reader) (r : (parse_reader × ast_Stmt)), parse_reader_loopN n a0 = some r → Cs Tryz.prog (GX X) 117 [xP 0 0] [oB 71 (bs (e_parse_reader a0))] (r_parse_reader_loop r) (o_parse_reader_loop r)) (ih_parse_reader_recv : ∀ (a0 : parse_reader) (r : (parse_reader × ast_Stmt)), parse_reader_recvN n a0 = some r → Cs Tryz.prog (GX X) 119 [xP 0 0] [oB 71 (bs (e_parse_reader a0))] (r_parse_reader_recv r) (o_parse_reader_recv r)) (ih_parse_reader_block : ∀ (a0 : parse_reader) (r : (parse_reader × (List ast_Stmt))), parse_reader_blockN n a0 = some r → Cs Tryz.prog (GX X) 140 [xP 0 0] [oB 71 (bs (e_parse_reader a0))] (r_parse_reader_block r) (o_parse_reader_block r)) (ih_parse_reader_arm : ∀ (a0 : parse_reader) (r : (parse_reader × ast_Arm)), parse_reader_armN n a0 = some r → Cs Tryz.prog (GX X) 142 [xP 0 0] [oB 71 (bs (e_parse_reader a0))] (r_parse_reader_arm r) (o_parse_reader_arm r)) (a0 : parse_reader) (r : (parse_reader × ast_Stmt)) (h : parse_reader_recvN (n + 1) a0 = some r) : Cs Tryz.prog (GX X) 119 [xP 0 0] [oB 71 (bs (e_parse_reader a0))] (r_parse_reader_recv r) (o_parse_reader_recv r) := by
  refine fnT (cx := cx X) Tryz.f119 Tryz.call119 Tryz.func119 (by kernel_rfl) ?_
  rw [parse_reader_recvN] at h
  obtain ⟨v1, k1, h⟩ := bindE h
  obtain ⟨v2, k2, h⟩ := bindE h
  obtain ⟨v3, k3, h⟩ := bindE h
  obtain ⟨v4, k4, h⟩ := bindE h
  refine adv (ok X) 9 [.s (r_parse_reader_name v1) (o_parse_reader_name v1), .s (r_parse_reader_must v2) (o_parse_reader_must v2), .o [0, 1, 2, 3, 4, 5, 6, 7], .s (r_parse_reader_arm v3) (o_parse_reader_arm v3), .bl (List.map e_ast_Arm [v3.2]), .l (List.map e_ast_Arm v4)] (pA (m_parse_reader_name (X := X) k1) (pA (m_parse_reader_must (X := X) k2) (pA (ih_parse_reader_arm _ _ k3) (pA (blc (e := e_ast_Arm) (x := v3.2) (e_ast_Arm_eq _).symm (bl0 e_ast_Arm)) (pA (apm (L := []) (M := [v3.2]) e_ast_Arm_len k4) pT))))) (by kernel_rfl) ?_
  refine lp (ok X) (parse_reader_recv_l1 (parse_reader_stmtsN n) (parse_reader_stmtN n) (parse_reader_conditionalN n) (parse_reader_loopN n) (parse_reader_recvN n) (parse_reader_blockN n) (parse_reader_armN n)) (fun (x1 : ((List lex_Token) × Int × Int × Int × Int × Int × (List ast_Arm))) => ⟨36, 1, [(0, [xP 0 0]), (2, [xP 1 0]), (3, [xP 2 0])], [oB 71 (bs (e_parse_reader (parse_reader.mk x1.1 x1.2.1 x1.2.2.1 x1.2.2.2.1 x1.2.2.2.2.1 x1.2.2.2.2.2.1))), oB 108 [.pv (.int .i64 0), .pv (.str (ByteArray.mk #[])), .pv (.str (ByteArray.mk #[])), .pv (.int .i64 0), .pv (.int .i64 0), .pv (.str (ByteArray.mk #[])), .emp, .pv (.int .i64 0), .pv (.int .i64 0), .pv (.int .i64 0), .pv (.str (ByteArray.mk #[])), .emp, .pv (.int .i64 0), .pv (.int .i64 0), .pv (.str (ByteArray.mk #[])), .emp, .emp, .emp, .emp], oB 108 [.pv (.int .i64 5), .pv (.str v1.2), .pv (.str (ByteArray.mk #[])), .pv (.int .i64 0), .pv (.int .i64 0), .pv (.str (ByteArray.mk #[])), .emp, .pv (.int .i64 0), .pv (.int .i64 0), .pv (.int .i64 0), .pv (.str (ByteArray.mk #[])), .emp, .pv (.int .i64 0), .pv (.int .i64 0), .pv (.str (ByteArray.mk #[])), .emp, .emp, .emp, .row 3], oR true 156 3 (List.map e_ast_Arm x1.2.2.2.2.2.2)]⟩) (fun (j1 : ((List lex_Token) × Int × Int × Int × Int × Int × (List ast_Arm))) => ⟨36, 1, [(0, [xP 0 0]), (2, [xP 1 0]), (3, [xP 2 0])], [oB 71 (bs (e_parse_reader (parse_reader.mk j1.1 j1.2.1 j1.2.2.1 j1.2.2.2.1 j1.2.2.2.2.1 j1.2.2.2.2.2.1))), oB 108 [.pv (.int .i64 0), .pv (.str (ByteArray.mk #[])), .pv (.str (ByteArray.mk #[])), .pv (.int .i64 0), .pv (.int .i64 0), .pv (.str (ByteArray.mk #[])), .emp, .pv (.int .i64 0), .pv (.int .i64 0), .pv (.int .i64 0), .pv (.str (ByteArray.mk #[])), .emp, .pv (.int .i64 0), .pv (.int .i64 0), .pv (.str (ByteArray.mk #[])), .emp, .emp, .emp, .emp], oB 108 [.pv (.int .i64 5), .pv (.str v1.2), .pv (.str (ByteArray.mk #[])), .pv (.int .i64 0), .pv (.int .i64 0), .pv (.str (ByteArray.mk #[])), .emp, .pv (.int .i64 0), .pv (.int .i64 0), .pv (.int .i64 0), .pv (.str (ByteArray.mk #[])), .emp, .pv (.int .i64 0), .pv (.int .i64 0), .pv (.str (ByteArray.mk #[])), .emp, .emp, .emp, .row 3], oR true 156 3 (List.map e_ast_Arm j1.2.2.2.2.2.2)]⟩) R_parse_reader_recv (v3.1.f_l, v3.1.f_end, v3.1.f_e, v3.1.f_at, v3.1.f_deep, v3.1.f_in, v4) (fun _ => ⟨_, _, _, _, rfl⟩) h (by kernel_rfl) (fun x1 o h => ?_) (fun r' h => ?_) (fun j1 h => ?_)
  · unfold parse_reader_recv_l1 at h
    refine adv (ok X) 2 [] pT (by kernel_rfl) ?_
    refine jn (ok X) 1 (fun (j2 : Bool) => ⟨36, 1, [(0, [xP 0 0]), (2, [xP 1 0]), (3, [xP 2 0]), (25, [xB j2])], [oB 71 (bs (e_parse_reader (parse_reader.mk x1.1 x1.2.1 x1.2.2.1 x1.2.2.2.1 x1.2.2.2.2.1 x1.2.2.2.2.2.1))), oB 108 [.pv (.int .i64 0), .pv (.str (ByteArray.mk #[])), .pv (.str (ByteArray.mk #[])), .pv (.int .i64 0), .pv (.int .i64 0), .pv (.str (ByteArray.mk #[])), .emp, .pv (.int .i64 0), .pv (.int .i64 0), .pv (.int .i64 0), .pv (.str (ByteArray.mk #[])), .emp, .pv (.int .i64 0), .pv (.int .i64 0), .pv (.str (ByteArray.mk #[])), .emp, .emp, .emp, .emp], oB 108 [.pv (.int .i64 5), .pv (.str v1.2), .pv (.str (ByteArray.mk #[])), .pv (.int .i64 0), .pv (.int .i64 0), .pv (.str (ByteArray.mk #[])), .emp, .pv (.int .i64 0), .pv (.int .i64 0), .pv (.int .i64 0), .pv (.str (ByteArray.mk #[])), .emp, .pv (.int .i64 0), .pv (.int .i64 0), .pv (.str (ByteArray.mk #[])), .emp, .emp, .emp, .row 3], oR true 156 3 (List.map e_ast_Arm x1.2.2.2.2.2.2)]⟩) h (fun j2 h => ?_) (fun j2 h => ?_)
    · rcases iteE h with ⟨k5, h⟩ | ⟨k5, h⟩
      · obtain ⟨v5, k6, h⟩ := bindE h
        obtain rfl := retE h
        exact fin (ok X) 1 [.b true, .b true, .s (r_parse_reader_sees v5) (o_parse_reader_sees (parse_reader.mk x1.1 x1.2.1 x1.2.2.1 x1.2.2.2.1 x1.2.2.2.2.1 x1.2.2.2.2.2.1) v5), .b true, .b true] (pA k5 (pA k5 (pA (m_parse_reader_sees (X := X) k6) (pA k5 (pA k5 pT))))) (by kernel_rfl)
      · obtain rfl := retE h
        exact fin (ok X) 1 [.b false, .b false, .b false, .b false] (pA k5 (pA k5 (pA k5 (pA k5 pT)))) (by kernel_rfl)
    · rcases iteE h with ⟨k7, h⟩ | ⟨k7, h⟩
      · obtain ⟨v6, k8, h⟩ := bindE h
        obtain ⟨v7, k9, h⟩ := bindE h
        obtain rfl := retE h
        exact fin (ok X) 5 [.b true, .o [0, 1, 2, 3, 4, 5, 6, 7], .s (r_parse_reader_arm v6) (o_parse_reader_arm v6), .bl (List.map e_ast_Arm [v6.2]), .l (List.map e_ast_Arm v7)] (pA k7 (pA (ih_parse_reader_arm _ _ k8) (pA (blc (e := e_ast_Arm) (x := v6.2) (e_ast_Arm_eq _).symm (bl0 e_ast_Arm)) (pA (apm (L := x1.2.2.2.2.2.2) (M := [v6.2]) e_ast_Arm_len k9) pT)))) (by kernel_rfl)
      · obtain rfl := retE h
        exact fin (ok X) 2 [.b false] (pA k7 pT) (by kernel_rfl)
  · cases h
  · obtain ⟨v8, k10, h⟩ := bindE h
    obtain rfl := retE h
    exact fin (ok X) 5 [.s (r_parse_reader_must v8) (o_parse_reader_must v8)] (pA (m_parse_reader_must (X := X) k10) pT) (by kernel_rfl)

theorem s_parse_reader_block {n : Nat} (ih_parse_reader_stmts : ∀ (a0 : parse_reader) (r : (parse_reader × (List ast_Stmt))), parse_reader_stmtsN n a0 = some r → Cs Tryz.prog (GX X) 61 [xP 0 0] [oB 71 (bs (e_parse_reader a0))] (r_parse_reader_stmts r) (o_parse_reader_stmts r)) (ih_parse_reader_stmt : ∀ (a0 : parse_reader) (r : (parse_reader × ast_Stmt × Bool)), parse_reader_stmtN n a0 = some r → Cs Tryz.prog (GX X) 98 [xP 0 0] [oB 71 (bs (e_parse_reader a0))] (r_parse_reader_stmt r) (o_parse_reader_stmt r)) (ih_parse_reader_conditional : ∀ (a0 : parse_reader) (r : (parse_reader × ast_Stmt)), parse_reader_conditionalN n a0 = some r → Cs Tryz.prog (GX X) 116 [xP 0 0] [oB 71 (bs (e_parse_reader a0))] (r_parse_reader_conditional r) (o_parse_reader_conditional r)) (ih_parse_reader_loop : ∀ (a0 : parse_reader) (r : (parse_reader × ast_Stmt)), parse_reader_loopN n a0 = some r → Cs Tryz.prog (GX X) 117 [xP 0 0] [oB 71 (bs (e_parse_reader a0))] (r_parse_reader_loop r) (o_parse_reader_loop r)) (ih_parse_reader_recv : ∀ (a0 : parse_reader) (r : (parse_reader × ast_Stmt)), parse_reader_recvN n a0 = some r → Cs Tryz.prog (GX X) 119 [xP 0 0] [oB 71 (bs (e_parse_reader a0))] (r_parse_reader_recv r) (o_parse_reader_recv r)) (ih_parse_reader_block : ∀ (a0 : parse_reader) (r : (parse_reader × (List ast_Stmt))), parse_reader_blockN n a0 = some r → Cs Tryz.prog (GX X) 140 [xP 0 0] [oB 71 (bs (e_parse_reader a0))] (r_parse_reader_block r) (o_parse_reader_block r)) (ih_parse_reader_arm : ∀ (a0 : parse_reader) (r : (parse_reader × ast_Arm)), parse_reader_armN n a0 = some r → Cs Tryz.prog (GX X) 142 [xP 0 0] [oB 71 (bs (e_parse_reader a0))] (r_parse_reader_arm r) (o_parse_reader_arm r)) (a0 : parse_reader) (r : (parse_reader × (List ast_Stmt))) (h : parse_reader_blockN (n + 1) a0 = some r) : Cs Tryz.prog (GX X) 140 [xP 0 0] [oB 71 (bs (e_parse_reader a0))] (r_parse_reader_block r) (o_parse_reader_block r) := by
  refine fnT (cx := cx X) Tryz.f140 Tryz.call140 Tryz.func140 (by kernel_rfl) ?_
  rw [parse_reader_blockN] at h
  refine adv (ok X) 4 [] pT (by kernel_rfl) ?_
  refine jn (ok X) 1 (fun (j1 : Bool) => ⟨36, 1, [(0, [xP 0 0]), (12, [xB j1])], [oB 71 (bs (e_parse_reader a0))]⟩) h (fun j1 h => ?_) (fun j1 h => ?_)
  · obtain ⟨v1, k1, h⟩ := bindE h
    rcases iteE h with ⟨k2, h⟩ | ⟨k2, h⟩
    · obtain rfl := retE h
      exact fin (ok X) 1 [.s (r_parse_reader_sees v1) (o_parse_reader_sees a0 v1), .b true, .b true, .b true, .b true, .b true, .b true] (pA (m_parse_reader_sees (X := X) k1) (pA k2 (pA k2 (pA k2 (pA k2 (pA k2 (pA k2 pT))))))) (by kernel_rfl)
    · obtain rfl := retE h
      exact fin (ok X) 1 [.s (r_parse_reader_sees v1) (o_parse_reader_sees a0 v1), .b false, .b false, .b false, .b false, .b false, .b false] (pA (m_parse_reader_sees (X := X) k1) (pA k2 (pA k2 (pA k2 (pA k2 (pA k2 (pA k2 pT))))))) (by kernel_rfl)
  · rcases iteE h with ⟨k3, h⟩ | ⟨k3, h⟩
    · obtain ⟨v2, k4, h⟩ := bindE h
      obtain rfl := retE h
      exact fin (ok X) 6 [.b true, .s (r_parse_reader_fail v2) (o_parse_reader_fail v2)] (pA k3 (pA (m_parse_reader_fail (X := X) k4) pT)) (by kernel_rfl)
    · obtain ⟨v3, k5, h⟩ := bindE h
      obtain ⟨v4, k6, h⟩ := bindE h
      obtain ⟨v5, k7, h⟩ := bindE h
      obtain rfl := retE h
      exact fin (ok X) 15 [.b false, .s (r_parse_reader_must v3) (o_parse_reader_must v3), .s (r_parse_reader_stmts v4) (o_parse_reader_stmts v4), .s (r_parse_reader_must v5) (o_parse_reader_must v5)] (pA k3 (pA (m_parse_reader_must (X := X) k5) (pA (ih_parse_reader_stmts _ _ k6) (pA (m_parse_reader_must (X := X) k7) pT)))) (by kernel_rfl)

theorem s_parse_reader_arm {n : Nat} (ih_parse_reader_stmts : ∀ (a0 : parse_reader) (r : (parse_reader × (List ast_Stmt))), parse_reader_stmtsN n a0 = some r → Cs Tryz.prog (GX X) 61 [xP 0 0] [oB 71 (bs (e_parse_reader a0))] (r_parse_reader_stmts r) (o_parse_reader_stmts r)) (ih_parse_reader_stmt : ∀ (a0 : parse_reader) (r : (parse_reader × ast_Stmt × Bool)), parse_reader_stmtN n a0 = some r → Cs Tryz.prog (GX X) 98 [xP 0 0] [oB 71 (bs (e_parse_reader a0))] (r_parse_reader_stmt r) (o_parse_reader_stmt r)) (ih_parse_reader_conditional : ∀ (a0 : parse_reader) (r : (parse_reader × ast_Stmt)), parse_reader_conditionalN n a0 = some r → Cs Tryz.prog (GX X) 116 [xP 0 0] [oB 71 (bs (e_parse_reader a0))] (r_parse_reader_conditional r) (o_parse_reader_conditional r)) (ih_parse_reader_loop : ∀ (a0 : parse_reader) (r : (parse_reader × ast_Stmt)), parse_reader_loopN n a0 = some r → Cs Tryz.prog (GX X) 117 [xP 0 0] [oB 71 (bs (e_parse_reader a0))] (r_parse_reader_loop r) (o_parse_reader_loop r)) (ih_parse_reader_recv : ∀ (a0 : parse_reader) (r : (parse_reader × ast_Stmt)), parse_reader_recvN n a0 = some r → Cs Tryz.prog (GX X) 119 [xP 0 0] [oB 71 (bs (e_parse_reader a0))] (r_parse_reader_recv r) (o_parse_reader_recv r)) (ih_parse_reader_block : ∀ (a0 : parse_reader) (r : (parse_reader × (List ast_Stmt))), parse_reader_blockN n a0 = some r → Cs Tryz.prog (GX X) 140 [xP 0 0] [oB 71 (bs (e_parse_reader a0))] (r_parse_reader_block r) (o_parse_reader_block r)) (ih_parse_reader_arm : ∀ (a0 : parse_reader) (r : (parse_reader × ast_Arm)), parse_reader_armN n a0 = some r → Cs Tryz.prog (GX X) 142 [xP 0 0] [oB 71 (bs (e_parse_reader a0))] (r_parse_reader_arm r) (o_parse_reader_arm r)) (a0 : parse_reader) (r : (parse_reader × ast_Arm)) (h : parse_reader_armN (n + 1) a0 = some r) : Cs Tryz.prog (GX X) 142 [xP 0 0] [oB 71 (bs (e_parse_reader a0))] (r_parse_reader_arm r) (o_parse_reader_arm r) := by
  refine fnT (cx := cx X) Tryz.f142 Tryz.call142 Tryz.func142 (by kernel_rfl) ?_
  rw [parse_reader_armN] at h
  obtain ⟨v1, k1, h⟩ := bindE h
  obtain ⟨v2, k2, h⟩ := bindE h
  obtain ⟨v3, k3, h⟩ := bindE h
  obtain ⟨v4, k4, h⟩ := bindE h
  obtain ⟨v5, k5, h⟩ := bindE h
  obtain rfl := retE h
  exact fin (ok X) 15 [.s (r_parse_reader_name v1) (o_parse_reader_name v1), .s (r_parse_reader_must v2) (o_parse_reader_must v2), .s (r_parse_reader_name v3) (o_parse_reader_name v3), .s (r_parse_reader_must v4) (o_parse_reader_must v4), .s (r_parse_reader_block v5) (o_parse_reader_block v5)] (pA (m_parse_reader_name (X := X) k1) (pA (m_parse_reader_must (X := X) k2) (pA (m_parse_reader_name (X := X) k3) (pA (m_parse_reader_must (X := X) k4) (pA (ih_parse_reader_block _ _ k5) pT))))) (by kernel_rfl)

theorem all_parse_reader_stmts : ∀ n : Nat, (∀ (a0 : parse_reader) (r : (parse_reader × (List ast_Stmt))), parse_reader_stmtsN n a0 = some r → Cs Tryz.prog (GX X) 61 [xP 0 0] [oB 71 (bs (e_parse_reader a0))] (r_parse_reader_stmts r) (o_parse_reader_stmts r)) ∧ (∀ (a0 : parse_reader) (r : (parse_reader × ast_Stmt × Bool)), parse_reader_stmtN n a0 = some r → Cs Tryz.prog (GX X) 98 [xP 0 0] [oB 71 (bs (e_parse_reader a0))] (r_parse_reader_stmt r) (o_parse_reader_stmt r)) ∧ (∀ (a0 : parse_reader) (r : (parse_reader × ast_Stmt)), parse_reader_conditionalN n a0 = some r → Cs Tryz.prog (GX X) 116 [xP 0 0] [oB 71 (bs (e_parse_reader a0))] (r_parse_reader_conditional r) (o_parse_reader_conditional r)) ∧ (∀ (a0 : parse_reader) (r : (parse_reader × ast_Stmt)), parse_reader_loopN n a0 = some r → Cs Tryz.prog (GX X) 117 [xP 0 0] [oB 71 (bs (e_parse_reader a0))] (r_parse_reader_loop r) (o_parse_reader_loop r)) ∧ (∀ (a0 : parse_reader) (r : (parse_reader × ast_Stmt)), parse_reader_recvN n a0 = some r → Cs Tryz.prog (GX X) 119 [xP 0 0] [oB 71 (bs (e_parse_reader a0))] (r_parse_reader_recv r) (o_parse_reader_recv r)) ∧ (∀ (a0 : parse_reader) (r : (parse_reader × (List ast_Stmt))), parse_reader_blockN n a0 = some r → Cs Tryz.prog (GX X) 140 [xP 0 0] [oB 71 (bs (e_parse_reader a0))] (r_parse_reader_block r) (o_parse_reader_block r)) ∧ (∀ (a0 : parse_reader) (r : (parse_reader × ast_Arm)), parse_reader_armN n a0 = some r → Cs Tryz.prog (GX X) 142 [xP 0 0] [oB 71 (bs (e_parse_reader a0))] (r_parse_reader_arm r) (o_parse_reader_arm r))
  | 0 => ⟨(fun _ _ h => by rw [parse_reader_stmtsN] at h; cases h), (fun _ _ h => by rw [parse_reader_stmtN] at h; cases h), (fun _ _ h => by rw [parse_reader_conditionalN] at h; cases h), (fun _ _ h => by rw [parse_reader_loopN] at h; cases h), (fun _ _ h => by rw [parse_reader_recvN] at h; cases h), (fun _ _ h => by rw [parse_reader_blockN] at h; cases h), (fun _ _ h => by rw [parse_reader_armN] at h; cases h)⟩
  | n + 1 => by
    have ih := all_parse_reader_stmts n
    exact ⟨s_parse_reader_stmts ih.1 ih.2.1 ih.2.2.1 ih.2.2.2.1 ih.2.2.2.2.1 ih.2.2.2.2.2.1 ih.2.2.2.2.2.2, s_parse_reader_stmt ih.1 ih.2.1 ih.2.2.1 ih.2.2.2.1 ih.2.2.2.2.1 ih.2.2.2.2.2.1 ih.2.2.2.2.2.2, s_parse_reader_conditional ih.1 ih.2.1 ih.2.2.1 ih.2.2.2.1 ih.2.2.2.2.1 ih.2.2.2.2.2.1 ih.2.2.2.2.2.2, s_parse_reader_loop ih.1 ih.2.1 ih.2.2.1 ih.2.2.2.1 ih.2.2.2.2.1 ih.2.2.2.2.2.1 ih.2.2.2.2.2.2, s_parse_reader_recv ih.1 ih.2.1 ih.2.2.1 ih.2.2.2.1 ih.2.2.2.2.1 ih.2.2.2.2.2.1 ih.2.2.2.2.2.2, s_parse_reader_block ih.1 ih.2.1 ih.2.2.1 ih.2.2.2.1 ih.2.2.2.2.1 ih.2.2.2.2.2.1 ih.2.2.2.2.2.2, s_parse_reader_arm ih.1 ih.2.1 ih.2.2.1 ih.2.2.2.1 ih.2.2.2.2.1 ih.2.2.2.2.2.1 ih.2.2.2.2.2.2⟩

theorem m_parse_reader_stmts {a0 : parse_reader} {r : (parse_reader × (List ast_Stmt))} (h : parse_reader_stmts a0 = some r) : Cs Tryz.prog (GX X) 61 [xP 0 0] [oB 71 (bs (e_parse_reader a0))] (r_parse_reader_stmts r) (o_parse_reader_stmts r) := by
  obtain ⟨n, hn⟩ := unfE h
  exact (all_parse_reader_stmts n).1 _ _ hn

theorem m_parse_reader_proc {a0 : parse_reader} {r : (parse_reader × ast_Proc)} (h : parse_reader_proc a0 = some r) : Cs Tryz.prog (GX X) 23 [xP 0 0] [oB 71 (bs (e_parse_reader a0))] (r_parse_reader_proc r) (o_parse_reader_proc r) := by
  refine fnT (cx := cx X) Tryz.f23 Tryz.call23 Tryz.func23 (by kernel_rfl) ?_
  unfold parse_reader_proc at h
  obtain ⟨v1, k1, h⟩ := bindE h
  obtain ⟨v2, k2, h⟩ := bindE h
  refine adv (ok X) 7 [.s (r_parse_reader_name v1) (o_parse_reader_name v1), .s (r_parse_reader_must v2) (o_parse_reader_must v2)] (pA (m_parse_reader_name (X := X) k1) (pA (m_parse_reader_must (X := X) k2) pT)) (by kernel_rfl) ?_
  refine lp (ok X) (parse_reader_proc_l1) (fun (x1 : ((List lex_Token) × Int × Int × Int × Int × Int × (List ByteArray))) => ⟨26, 1, [(0, [xP 0 0]), (2, [xP 1 0]), (3, [xP 2 0])], [oB 71 (bs (e_parse_reader (parse_reader.mk x1.1 x1.2.1 x1.2.2.1 x1.2.2.2.1 x1.2.2.2.2.1 x1.2.2.2.2.2.1))), oB 81 [.pv (.str (ByteArray.mk #[])), .emp, .emp], oB 81 [.pv (.str v1.2), .row 3, .emp], oR true 9 1 (List.map e_str x1.2.2.2.2.2.2)]⟩) (fun (j1 : ((List lex_Token) × Int × Int × Int × Int × Int × (List ByteArray))) => ⟨26, 1, [(0, [xP 0 0]), (2, [xP 1 0]), (3, [xP 2 0])], [oB 71 (bs (e_parse_reader (parse_reader.mk j1.1 j1.2.1 j1.2.2.1 j1.2.2.2.1 j1.2.2.2.2.1 j1.2.2.2.2.2.1))), oB 81 [.pv (.str (ByteArray.mk #[])), .emp, .emp], oB 81 [.pv (.str v1.2), .row 3, .emp], oR true 9 1 (List.map e_str j1.2.2.2.2.2.2)]⟩) R_parse_reader_proc (v2.f_l, v2.f_end, v2.f_e, v2.f_at, v2.f_deep, v2.f_in, []) (fun _ => ⟨_, _, _, _, rfl⟩) h (by kernel_rfl) (fun x1 o h => ?_) (fun r' h => ?_) (fun j1 h => ?_)
  · unfold parse_reader_proc_l1 at h
    obtain ⟨v3, k3, h⟩ := bindE h
    refine adv (ok X) 3 [.s (r_parse_reader_skip v3) (o_parse_reader_skip v3)] (pA (m_parse_reader_skip (X := X) k3) pT) (by kernel_rfl) ?_
    rcases iteE h with ⟨k4, h⟩ | ⟨k4, h⟩
    · obtain ⟨v4, k5, h⟩ := bindE h
      obtain ⟨v5, k6, h⟩ := bindE h
      obtain ⟨v6, k7, h⟩ := bindE h
      obtain rfl := retE h
      exact fin (ok X) 7 [.b true, .o [0, 1, 2, 3, 4, 5, 6, 7], .s (r_parse_reader_name v4) (o_parse_reader_name v4), .l (List.map e_str v5), .s (r_parse_reader_must v6) (o_parse_reader_must v6)] (pA k4 (pA (m_parse_reader_name (X := X) k5) (pA (apm (L := x1.2.2.2.2.2.2) (M := [v4.2]) e_str_len k6) (pA (m_parse_reader_must (X := X) k7) pT)))) (by kernel_rfl)
    · obtain rfl := retE h
      exact fin (ok X) 2 [.b false] (pA k4 pT) (by kernel_rfl)
  · cases h
  · obtain ⟨v7, k8, h⟩ := bindE h
    obtain ⟨v8, k9, h⟩ := bindE h
    obtain rfl := retE h
    exact fin (ok X) 7 [.s (r_parse_reader_stmts v7) (o_parse_reader_stmts v7), .s (r_parse_reader_must v8) (o_parse_reader_must v8)] (pA (m_parse_reader_stmts (X := X) k8) (pA (m_parse_reader_must (X := X) k9) pT)) (by kernel_rfl)

theorem m_parse_Parse {a0 : ByteArray} {r : (ast_System × Int × Int)} (h : parse_Parse a0 = some r) : Cv Tryz.prog (GX X) 9 [xS a0] (r_parse_Parse r) := by
  refine Cs.toV (?_ : Cs Tryz.prog (GX X) 9 [xS a0] [] (r_parse_Parse r) (o_parse_Parse r)) (by kernel_rfl)
  refine fnT (cx := cx X) Tryz.f9 Tryz.call9 Tryz.func9 (by kernel_rfl) ?_
  unfold parse_Parse at h
  obtain ⟨v1, k1, h⟩ := bindE h
  refine adv (ok X) 7 [.c (r_lex_Lex v1)] (pA (m_lex_Lex (X := X) k1) pT) (by kernel_rfl) ?_
  rcases iteE h with ⟨k2, h⟩ | ⟨k2, h⟩
  · obtain rfl := retE h
    exact fin (ok X) 4 [.b true] (pA k2 pT) (by kernel_rfl)
  · refine adv (ok X) 7 [.b false] (pA k2 pT) (by kernel_rfl) ?_
    refine lp (ok X) (parse_Parse_l1) (fun (x1 : ((List lex_Token) × Int × Int × Int × Int × Int × (List ast_Chan))) => ⟨76, 0, [(2, [xP 0 0]), (8, [xP 1 0]), (9, [xP 2 0])], [oB 26 [.emp, .emp, .emp], oB 71 (bs (e_parse_reader (parse_reader.mk x1.1 x1.2.1 x1.2.2.1 x1.2.2.2.1 x1.2.2.2.2.1 x1.2.2.2.2.2.1))), oB 26 [.row 3, .emp, .emp], oR true 73 6 (List.map e_ast_Chan x1.2.2.2.2.2.2)]⟩) (fun (j1 : ((List lex_Token) × Int × Int × Int × Int × Int × (List ast_Chan))) => ⟨76, 0, [(2, [xP 0 0]), (8, [xP 1 0]), (9, [xP 2 0])], [oB 26 [.emp, .emp, .emp], oB 71 (bs (e_parse_reader (parse_reader.mk j1.1 j1.2.1 j1.2.2.1 j1.2.2.2.1 j1.2.2.2.2.1 j1.2.2.2.2.2.1))), oB 26 [.row 3, .emp, .emp], oR true 73 6 (List.map e_ast_Chan j1.2.2.2.2.2.2)]⟩) R_parse_Parse (v1.1, (a0.size : Int), 0, 0, 0, 0, []) (fun _ => ⟨_, _, _, _, rfl⟩) h (by kernel_rfl) (fun x1 o h => ?_) (fun r' h => ?_) (fun j1 h => ?_)
    · unfold parse_Parse_l1 at h
      obtain ⟨v2, k3, h⟩ := bindE h
      refine adv (ok X) 3 [.s (r_parse_reader_skip v2) (o_parse_reader_skip v2)] (pA (m_parse_reader_skip (X := X) k3) pT) (by kernel_rfl) ?_
      rcases iteE h with ⟨k4, h⟩ | ⟨k4, h⟩
      · obtain ⟨v3, k5, h⟩ := bindE h
        obtain ⟨v4, k6, h⟩ := bindE h
        obtain rfl := retE h
        exact fin (ok X) 5 [.b true, .o [0, 1, 2, 3, 4, 5, 6, 7], .s (r_parse_reader_channel v3) (o_parse_reader_channel v3), .l (List.map e_ast_Chan v4)] (pA k4 (pA (m_parse_reader_channel (X := X) k5) (pA (apm (L := x1.2.2.2.2.2.2) (M := [v3.2]) e_ast_Chan_len k6) pT))) (by kernel_rfl)
      · obtain rfl := retE h
        exact fin (ok X) 2 [.b false] (pA k4 pT) (by kernel_rfl)
    · cases h
    · refine adv (ok X) 1 [] pT (by kernel_rfl) ?_
      refine lp (ok X) (parse_Parse_l2) (fun (x2 : ((List lex_Token) × Int × Int × Int × Int × Int × (List ast_Rule))) => ⟨76, 0, [(2, [xP 0 0]), (8, [xP 1 0]), (9, [xP 2 0])], [oB 26 [.emp, .emp, .emp], oB 71 (bs (e_parse_reader (parse_reader.mk x2.1 x2.2.1 x2.2.2.1 x2.2.2.2.1 x2.2.2.2.2.1 x2.2.2.2.2.2.1))), oB 26 [.row 3, .row 4, .emp], oR true 73 6 (List.map e_ast_Chan j1.2.2.2.2.2.2), oR true 77 2 (List.map e_ast_Rule x2.2.2.2.2.2.2)]⟩) (fun (j2 : ((List lex_Token) × Int × Int × Int × Int × Int × (List ast_Rule))) => ⟨76, 0, [(2, [xP 0 0]), (8, [xP 1 0]), (9, [xP 2 0])], [oB 26 [.emp, .emp, .emp], oB 71 (bs (e_parse_reader (parse_reader.mk j2.1 j2.2.1 j2.2.2.1 j2.2.2.2.1 j2.2.2.2.2.1 j2.2.2.2.2.2.1))), oB 26 [.row 3, .row 4, .emp], oR true 73 6 (List.map e_ast_Chan j1.2.2.2.2.2.2), oR true 77 2 (List.map e_ast_Rule j2.2.2.2.2.2.2)]⟩) R_parse_Parse (j1.1, j1.2.1, j1.2.2.1, j1.2.2.2.1, j1.2.2.2.2.1, j1.2.2.2.2.2.1, []) (fun _ => ⟨_, _, _, _, rfl⟩) h (by kernel_rfl) (fun x2 o h => ?_) (fun r' h => ?_) (fun j2 h => ?_)
      · unfold parse_Parse_l2 at h
        obtain ⟨v5, k7, h⟩ := bindE h
        refine adv (ok X) 3 [.s (r_parse_reader_skip v5) (o_parse_reader_skip v5)] (pA (m_parse_reader_skip (X := X) k7) pT) (by kernel_rfl) ?_
        rcases iteE h with ⟨k8, h⟩ | ⟨k8, h⟩
        · obtain ⟨v6, k9, h⟩ := bindE h
          obtain ⟨v7, k10, h⟩ := bindE h
          obtain rfl := retE h
          exact fin (ok X) 5 [.b true, .o [0, 1, 2, 3, 4, 5, 6, 7], .s (r_parse_reader_rule v6) (o_parse_reader_rule v6), .l (List.map e_ast_Rule v7)] (pA k8 (pA (m_parse_reader_rule (X := X) k9) (pA (apm (L := x2.2.2.2.2.2.2) (M := [v6.2]) e_ast_Rule_len k10) pT))) (by kernel_rfl)
        · obtain rfl := retE h
          exact fin (ok X) 2 [.b false] (pA k8 pT) (by kernel_rfl)
      · cases h
      · refine adv (ok X) 1 [] pT (by kernel_rfl) ?_
        refine lp (ok X) (parse_Parse_l3) (fun (x3 : ((List lex_Token) × Int × Int × Int × Int × Int × (List ast_Proc))) => ⟨76, 0, [(2, [xP 0 0]), (8, [xP 1 0]), (9, [xP 2 0])], [oB 26 [.emp, .emp, .emp], oB 71 (bs (e_parse_reader (parse_reader.mk x3.1 x3.2.1 x3.2.2.1 x3.2.2.2.1 x3.2.2.2.2.1 x3.2.2.2.2.2.1))), oB 26 [.row 3, .row 4, .row 5], oR true 73 6 (List.map e_ast_Chan j1.2.2.2.2.2.2), oR true 77 2 (List.map e_ast_Rule j2.2.2.2.2.2.2), oR true 81 3 (List.map e_ast_Proc x3.2.2.2.2.2.2)]⟩) (fun (j3 : ((List lex_Token) × Int × Int × Int × Int × Int × (List ast_Proc))) => ⟨76, 0, [(2, [xP 0 0]), (8, [xP 1 0]), (9, [xP 2 0])], [oB 26 [.emp, .emp, .emp], oB 71 (bs (e_parse_reader (parse_reader.mk j3.1 j3.2.1 j3.2.2.1 j3.2.2.2.1 j3.2.2.2.2.1 j3.2.2.2.2.2.1))), oB 26 [.row 3, .row 4, .row 5], oR true 73 6 (List.map e_ast_Chan j1.2.2.2.2.2.2), oR true 77 2 (List.map e_ast_Rule j2.2.2.2.2.2.2), oR true 81 3 (List.map e_ast_Proc j3.2.2.2.2.2.2)]⟩) R_parse_Parse (j2.1, j2.2.1, j2.2.2.1, j2.2.2.2.1, j2.2.2.2.2.1, j2.2.2.2.2.2.1, []) (fun _ => ⟨_, _, _, _, rfl⟩) h (by kernel_rfl) (fun x3 o h => ?_) (fun r' h => ?_) (fun j3 h => ?_)
        · unfold parse_Parse_l3 at h
          obtain ⟨v8, k11, h⟩ := bindE h
          refine adv (ok X) 3 [.s (r_parse_reader_skip v8) (o_parse_reader_skip v8)] (pA (m_parse_reader_skip (X := X) k11) pT) (by kernel_rfl) ?_
          rcases iteE h with ⟨k12, h⟩ | ⟨k12, h⟩
          · obtain ⟨v9, k13, h⟩ := bindE h
            obtain ⟨v10, k14, h⟩ := bindE h
            obtain rfl := retE h
            exact fin (ok X) 5 [.b true, .o [0, 1, 2, 3, 4, 5, 6, 7], .s (r_parse_reader_proc v9) (o_parse_reader_proc v9), .l (List.map e_ast_Proc v10)] (pA k12 (pA (m_parse_reader_proc (X := X) k13) (pA (apm (L := x3.2.2.2.2.2.2) (M := [v9.2]) e_ast_Proc_len k14) pT))) (by kernel_rfl)
          · obtain rfl := retE h
            exact fin (ok X) 2 [.b false] (pA k12 pT) (by kernel_rfl)
        · cases h
        · refine adv (ok X) 3 [.i (j3.1.length : Int)] (pA (lm e_lex_Token j3.1) pT) (by kernel_rfl) ?_
          rcases iteE h with ⟨k15, h⟩ | ⟨k15, h⟩
          · obtain ⟨v11, k16, h⟩ := bindE h
            refine adv (ok X) 5 [.b true, .s (r_parse_reader_fail v11) (o_parse_reader_fail v11)] (pA k15 (pA (m_parse_reader_fail (X := X) k16) pT)) (by kernel_rfl) ?_
            rcases iteE h with ⟨k17, h⟩ | ⟨k17, h⟩
            · obtain rfl := retE h
              exact fin (ok X) 4 [.b true, .o [0, 1, 2, 3, 4, 5, 6, 7, 8, 9, 10, 11]] (pA k17 pT) (by kernel_rfl)
            · obtain rfl := retE h
              exact fin (ok X) 5 [.b false] (pA k17 pT) (by kernel_rfl)
          · refine adv (ok X) 5 [.b false] (pA k15 pT) (by kernel_rfl) ?_
            rcases iteE h with ⟨k18, h⟩ | ⟨k18, h⟩
            · obtain rfl := retE h
              exact fin (ok X) 4 [.b true, .o [0, 1, 2, 3, 4, 5, 6, 7, 8, 9, 10, 11]] (pA k18 pT) (by kernel_rfl)
            · obtain rfl := retE h
              exact fin (ok X) 5 [.b false] (pA k18 pT) (by kernel_rfl)

theorem m_r01_letter {a0 : Int} {r : Bool} (h : r01_letter a0 = some r) : Cv Tryz.prog (GX X) 62 [.c (.pv (.int .u8 a0))] (r_r01_letter r) := by
  refine Cs.toV (?_ : Cs Tryz.prog (GX X) 62 [.c (.pv (.int .u8 a0))] [] (r_r01_letter r) (o_r01_letter r)) (by kernel_rfl)
  refine fnT (cx := cx X) Tryz.f62 Tryz.call62 Tryz.func62 (by kernel_rfl) ?_
  unfold r01_letter at h
  rcases iteE h with ⟨k1, h⟩ | ⟨k1, h⟩
  · obtain rfl := retE h
    exact fin (ok X) 5 [.b true, .b true, .b true] (pA k1 (pA k1 (pA k1 pT))) (by kernel_rfl)
  · obtain rfl := retE h
    exact fin (ok X) 5 [.b false, .b false, .b false] (pA k1 (pA k1 (pA k1 pT))) (by kernel_rfl)

theorem m_r01_digit {a0 : Int} {r : Bool} (h : r01_digit a0 = some r) : Cv Tryz.prog (GX X) 63 [.c (.pv (.int .u8 a0))] (r_r01_digit r) := by
  refine Cs.toV (?_ : Cs Tryz.prog (GX X) 63 [.c (.pv (.int .u8 a0))] [] (r_r01_digit r) (o_r01_digit r)) (by kernel_rfl)
  refine fnT (cx := cx X) Tryz.f63 Tryz.call63 Tryz.func63 (by kernel_rfl) ?_
  unfold r01_digit at h
  rcases iteE h with ⟨k1, h⟩ | ⟨k1, h⟩
  · obtain rfl := retE h
    exact fin (ok X) 5 [.b true, .b true, .b true] (pA k1 (pA k1 (pA k1 pT))) (by kernel_rfl)
  · obtain rfl := retE h
    exact fin (ok X) 5 [.b false, .b false, .b false] (pA k1 (pA k1 (pA k1 pT))) (by kernel_rfl)

theorem m_r01_words {r : (List ByteArray)} (h : r01_words = some r) : Cv Tryz.prog (GX X) 99 [] (r_r01_words r) := by
  refine Cs.toV (?_ : Cs Tryz.prog (GX X) 99 [] [] (r_r01_words r) (o_r01_words r)) (by kernel_rfl)
  refine fnT (cx := cx X) Tryz.f99 Tryz.call99 Tryz.func99 (by kernel_rfl) ?_
  unfold r01_words at h
  obtain rfl := retE h
  exact fin (ok X) 5 [] pT (by kernel_rfl)

theorem m_r01_Reserved {a0 : ByteArray} {r : Bool} (h : r01_Reserved a0 = some r) : Cv Tryz.prog (GX X) 64 [xS a0] (r_r01_Reserved r) := by
  refine Cs.toV (?_ : Cs Tryz.prog (GX X) 64 [xS a0] [] (r_r01_Reserved r) (o_r01_Reserved r)) (by kernel_rfl)
  refine fnT (cx := cx X) Tryz.f64 Tryz.call64 Tryz.func64 (by kernel_rfl) ?_
  unfold r01_Reserved at h
  obtain ⟨v1, k1, h⟩ := bindE h
  refine adv (ok X) 7 [.c (r_r01_words v1)] (pA (m_r01_words (X := X) k1) pT) (by kernel_rfl) ?_
  refine lp (ok X) (r01_Reserved_l1 a0 v1) (fun (x1 : Int) => ⟨18, 0, [(0, [xS a0]), (3, [xL (List.map e_str v1)]), (4, [xI x1])], []⟩) (fun (j1 : Unit) => ⟨18, 0, [], []⟩) R_r01_Reserved 0 (fun _ => ⟨_, _, _, _, rfl⟩) h (by kernel_rfl) (fun x1 o h => ?_) (fun r' h => ?_) (fun j1 h => ?_)
  · unfold r01_Reserved_l1 at h
    refine adv (ok X) 3 [.i (v1.length : Int)] (pA (lm e_str v1) pT) (by kernel_rfl) ?_
    rcases iteE h with ⟨k2, h⟩ | ⟨k2, h⟩
    · obtain ⟨v2, k3, h⟩ := bindE h
      refine adv (ok X) 6 [.b true, .e [.str v2]] (pA k2 (pA (ixm e_str k3) pT)) (by kernel_rfl) ?_
      rcases iteE h with ⟨k4, h⟩ | ⟨k4, h⟩
      · obtain rfl := retE h
        exact fin (ok X) 4 [.b true] (pA k4 pT) (by kernel_rfl)
      · obtain rfl := retE h
        exact fin (ok X) 4 [.b false] (pA k4 pT) (by kernel_rfl)
    · obtain rfl := retE h
      exact fin (ok X) 2 [.b false] (pA k2 pT) (by kernel_rfl)
  · obtain rfl := retE h
    kernel_rfl
  · obtain rfl := retE h
    exact fin (ok X) 3 [] pT (by kernel_rfl)
end Go.Proofs.YtokjbpmjdcbogaaGreatDoor.Abs

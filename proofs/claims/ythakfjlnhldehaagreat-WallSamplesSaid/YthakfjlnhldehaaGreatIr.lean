/- The table of the functions in the intermediate language. -/
import Derived.Test.YthakfjlnhldehaaGreatIra
import Derived.Test.YthakfjlnhldehaaGreatAbsF
namespace Go.Proofs.YthakfjlnhldehaaGreat
open Go.Ai
set_option maxRecDepth 100000

theorem Tryz.mixed : Tryz.prog.follows .mixedOrders = true := by kernel_rfl
def Tryz.irs : List (Nat × IFunc) := [(3, Tryz.i3), (4, Tryz.i4), (5, Tryz.i5), (6, Tryz.i6), (7, Tryz.i7), (8, Tryz.i8), (9, Tryz.i9), (10, Tryz.i10), (11, Tryz.i11), (12, Tryz.i12), (13, Tryz.i13), (14, Tryz.i14), (15, Tryz.i15), (16, Tryz.i16), (17, Tryz.i17), (18, Tryz.i18), (19, Tryz.i19), (20, Tryz.i20), (21, Tryz.i21), (22, Tryz.i22), (23, Tryz.i23), (24, Tryz.i24), (25, Tryz.i25), (26, Tryz.i26), (27, Tryz.i27), (28, Tryz.i28), (29, Tryz.i29), (30, Tryz.i30), (31, Tryz.i31), (32, Tryz.i32), (33, Tryz.i33), (34, Tryz.i34), (35, Tryz.i35), (36, Tryz.i36), (37, Tryz.i37), (38, Tryz.i38), (39, Tryz.i39), (40, Tryz.i40), (41, Tryz.i41), (42, Tryz.i42), (43, Tryz.i43), (44, Tryz.i44), (45, Tryz.i45), (46, Tryz.i46), (47, Tryz.i47), (48, Tryz.i48), (49, Tryz.i49), (50, Tryz.i50), (51, Tryz.i51), (52, Tryz.i52), (53, Tryz.i53), (54, Tryz.i54), (55, Tryz.i55), (56, Tryz.i56), (57, Tryz.i57), (58, Tryz.i58), (59, Tryz.i59), (60, Tryz.i60), (61, Tryz.i61), (62, Tryz.i62), (63, Tryz.i63), (64, Tryz.i64), (65, Tryz.i65), (66, Tryz.i66), (67, Tryz.i67), (68, Tryz.i68), (69, Tryz.i69), (70, Tryz.i70), (71, Tryz.i71), (72, Tryz.i72), (73, Tryz.i73), (74, Tryz.i74), (75, Tryz.i75), (76, Tryz.i76), (77, Tryz.i77), (78, Tryz.i78), (79, Tryz.i79), (80, Tryz.i80), (81, Tryz.i81), (82, Tryz.i82), (83, Tryz.i83), (84, Tryz.i84), (85, Tryz.i85), (86, Tryz.i86), (87, Tryz.i87), (88, Tryz.i88), (89, Tryz.i89), (90, Tryz.i90), (91, Tryz.i91), (92, Tryz.i92), (93, Tryz.i93), (94, Tryz.i94), (95, Tryz.i95), (96, Tryz.i96), (97, Tryz.i97), (98, Tryz.i98), (99, Tryz.i99), (100, Tryz.i100), (101, Tryz.i101), (102, Tryz.i102), (103, Tryz.i103), (104, Tryz.i104), (105, Tryz.i105), (106, Tryz.i106), (107, Tryz.i107), (108, Tryz.i108), (109, Tryz.i109), (110, Tryz.i110), (111, Tryz.i111), (112, Tryz.i112), (113, Tryz.i113), (114, Tryz.i114), (115, Tryz.i115), (116, Tryz.i116), (117, Tryz.i117), (118, Tryz.i118), (119, Tryz.i119), (120, Tryz.i120), (121, Tryz.i121), (122, Tryz.i122), (123, Tryz.i123), (124, Tryz.i124), (125, Tryz.i125), (126, Tryz.i126), (127, Tryz.i127), (128, Tryz.i128), (129, Tryz.i129), (130, Tryz.i130), (131, Tryz.i131), (132, Tryz.i132), (133, Tryz.i133), (134, Tryz.i134)]
def Tryz.ir (f : Nat) : Option IFunc := Tryz.irs.lookup f
theorem Tryz.irs_ok : ∀ p ∈ Tryz.irs, ∃ fn roots, Tryz.prog.funcs[p.1]? = some fn ∧ fnOk Tryz.prog roots fn p.2 = true := by
  unfold Tryz.irs
  refine List.forall_mem_cons.2 ⟨⟨_, Tryz.r3, Tryz.func3, Tryz.i3_ok⟩, ?_⟩
  refine List.forall_mem_cons.2 ⟨⟨_, Tryz.r4, Tryz.func4, Tryz.i4_ok⟩, ?_⟩
  refine List.forall_mem_cons.2 ⟨⟨_, Tryz.r5, Tryz.func5, Tryz.i5_ok⟩, ?_⟩
  refine List.forall_mem_cons.2 ⟨⟨_, Tryz.r6, Tryz.func6, Tryz.i6_ok⟩, ?_⟩
  refine List.forall_mem_cons.2 ⟨⟨_, Tryz.r7, Tryz.func7, Tryz.i7_ok⟩, ?_⟩
  refine List.forall_mem_cons.2 ⟨⟨_, Tryz.r8, Tryz.func8, Tryz.i8_ok⟩, ?_⟩
  refine List.forall_mem_cons.2 ⟨⟨_, Tryz.r9, Tryz.func9, Tryz.i9_ok⟩, ?_⟩
  refine List.forall_mem_cons.2 ⟨⟨_, Tryz.r10, Tryz.func10, Tryz.i10_ok⟩, ?_⟩
  refine List.forall_mem_cons.2 ⟨⟨_, Tryz.r11, Tryz.func11, Tryz.i11_ok⟩, ?_⟩
  refine List.forall_mem_cons.2 ⟨⟨_, Tryz.r12, Tryz.func12, Tryz.i12_ok⟩, ?_⟩
  refine List.forall_mem_cons.2 ⟨⟨_, Tryz.r13, Tryz.func13, Tryz.i13_ok⟩, ?_⟩
  refine List.forall_mem_cons.2 ⟨⟨_, Tryz.r14, Tryz.func14, Tryz.i14_ok⟩, ?_⟩
  refine List.forall_mem_cons.2 ⟨⟨_, Tryz.r15, Tryz.func15, Tryz.i15_ok⟩, ?_⟩
  refine List.forall_mem_cons.2 ⟨⟨_, Tryz.r16, Tryz.func16, Tryz.i16_ok⟩, ?_⟩
  refine List.forall_mem_cons.2 ⟨⟨_, Tryz.r17, Tryz.func17, Tryz.i17_ok⟩, ?_⟩
  refine List.forall_mem_cons.2 ⟨⟨_, Tryz.r18, Tryz.func18, Tryz.i18_ok⟩, ?_⟩
  refine List.forall_mem_cons.2 ⟨⟨_, Tryz.r19, Tryz.func19, Tryz.i19_ok⟩, ?_⟩
  refine List.forall_mem_cons.2 ⟨⟨_, Tryz.r20, Tryz.func20, Tryz.i20_ok⟩, ?_⟩
  refine List.forall_mem_cons.2 ⟨⟨_, Tryz.r21, Tryz.func21, Tryz.i21_ok⟩, ?_⟩
  refine List.forall_mem_cons.2 ⟨⟨_, Tryz.r22, Tryz.func22, Tryz.i22_ok⟩, ?_⟩
  refine List.forall_mem_cons.2 ⟨⟨_, Tryz.r23, Tryz.func23, Tryz.i23_ok⟩, ?_⟩
  refine List.forall_mem_cons.2 ⟨⟨_, Tryz.r24, Tryz.func24, Tryz.i24_ok⟩, ?_⟩
  refine List.forall_mem_cons.2 ⟨⟨_, Tryz.r25, Tryz.func25, Tryz.i25_ok⟩, ?_⟩
  refine List.forall_mem_cons.2 ⟨⟨_, Tryz.r26, Tryz.func26, Tryz.i26_ok⟩, ?_⟩
  refine List.forall_mem_cons.2 ⟨⟨_, Tryz.r27, Tryz.func27, Tryz.i27_ok⟩, ?_⟩
  refine List.forall_mem_cons.2 ⟨⟨_, Tryz.r28, Tryz.func28, Tryz.i28_ok⟩, ?_⟩
  refine List.forall_mem_cons.2 ⟨⟨_, Tryz.r29, Tryz.func29, Tryz.i29_ok⟩, ?_⟩
  refine List.forall_mem_cons.2 ⟨⟨_, Tryz.r30, Tryz.func30, Tryz.i30_ok⟩, ?_⟩
  refine List.forall_mem_cons.2 ⟨⟨_, Tryz.r31, Tryz.func31, Tryz.i31_ok⟩, ?_⟩
  refine List.forall_mem_cons.2 ⟨⟨_, Tryz.r32, Tryz.func32, Tryz.i32_ok⟩, ?_⟩
  refine List.forall_mem_cons.2 ⟨⟨_, Tryz.r33, Tryz.func33, Tryz.i33_ok⟩, ?_⟩
  refine List.forall_mem_cons.2 ⟨⟨_, Tryz.r34, Tryz.func34, Tryz.i34_ok⟩, ?_⟩
  refine List.forall_mem_cons.2 ⟨⟨_, Tryz.r35, Tryz.func35, Tryz.i35_ok⟩, ?_⟩
  refine List.forall_mem_cons.2 ⟨⟨_, Tryz.r36, Tryz.func36, Tryz.i36_ok⟩, ?_⟩
  refine List.forall_mem_cons.2 ⟨⟨_, Tryz.r37, Tryz.func37, Tryz.i37_ok⟩, ?_⟩
  refine List.forall_mem_cons.2 ⟨⟨_, Tryz.r38, Tryz.func38, Tryz.i38_ok⟩, ?_⟩
  refine List.forall_mem_cons.2 ⟨⟨_, Tryz.r39, Tryz.func39, Tryz.i39_ok⟩, ?_⟩
  refine List.forall_mem_cons.2 ⟨⟨_, Tryz.r40, Tryz.func40, Tryz.i40_ok⟩, ?_⟩
  refine List.forall_mem_cons.2 ⟨⟨_, Tryz.r41, Tryz.func41, Tryz.i41_ok⟩, ?_⟩
  refine List.forall_mem_cons.2 ⟨⟨_, Tryz.r42, Tryz.func42, Tryz.i42_ok⟩, ?_⟩
  refine List.forall_mem_cons.2 ⟨⟨_, Tryz.r43, Tryz.func43, Tryz.i43_ok⟩, ?_⟩
  refine List.forall_mem_cons.2 ⟨⟨_, Tryz.r44, Tryz.func44, Tryz.i44_ok⟩, ?_⟩
  refine List.forall_mem_cons.2 ⟨⟨_, Tryz.r45, Tryz.func45, Tryz.i45_ok⟩, ?_⟩
  refine List.forall_mem_cons.2 ⟨⟨_, Tryz.r46, Tryz.func46, Tryz.i46_ok⟩, ?_⟩
  refine List.forall_mem_cons.2 ⟨⟨_, Tryz.r47, Tryz.func47, Tryz.i47_ok⟩, ?_⟩
  refine List.forall_mem_cons.2 ⟨⟨_, Tryz.r48, Tryz.func48, Tryz.i48_ok⟩, ?_⟩
  refine List.forall_mem_cons.2 ⟨⟨_, Tryz.r49, Tryz.func49, Tryz.i49_ok⟩, ?_⟩
  refine List.forall_mem_cons.2 ⟨⟨_, Tryz.r50, Tryz.func50, Tryz.i50_ok⟩, ?_⟩
  refine List.forall_mem_cons.2 ⟨⟨_, Tryz.r51, Tryz.func51, Tryz.i51_ok⟩, ?_⟩
  refine List.forall_mem_cons.2 ⟨⟨_, Tryz.r52, Tryz.func52, Tryz.i52_ok⟩, ?_⟩
  refine List.forall_mem_cons.2 ⟨⟨_, Tryz.r53, Tryz.func53, Tryz.i53_ok⟩, ?_⟩
  refine List.forall_mem_cons.2 ⟨⟨_, Tryz.r54, Tryz.func54, Tryz.i54_ok⟩, ?_⟩
  refine List.forall_mem_cons.2 ⟨⟨_, Tryz.r55, Tryz.func55, Tryz.i55_ok⟩, ?_⟩
  refine List.forall_mem_cons.2 ⟨⟨_, Tryz.r56, Tryz.func56, Tryz.i56_ok⟩, ?_⟩
  refine List.forall_mem_cons.2 ⟨⟨_, Tryz.r57, Tryz.func57, Tryz.i57_ok⟩, ?_⟩
  refine List.forall_mem_cons.2 ⟨⟨_, Tryz.r58, Tryz.func58, Tryz.i58_ok⟩, ?_⟩
  refine List.forall_mem_cons.2 ⟨⟨_, Tryz.r59, Tryz.func59, Tryz.i59_ok⟩, ?_⟩
  refine List.forall_mem_cons.2 ⟨⟨_, Tryz.r60, Tryz.func60, Tryz.i60_ok⟩, ?_⟩
  refine List.forall_mem_cons.2 ⟨⟨_, Tryz.r61, Tryz.func61, Tryz.i61_ok⟩, ?_⟩
  refine List.forall_mem_cons.2 ⟨⟨_, Tryz.r62, Tryz.func62, Tryz.i62_ok⟩, ?_⟩
  refine List.forall_mem_cons.2 ⟨⟨_, Tryz.r63, Tryz.func63, Tryz.i63_ok⟩, ?_⟩
  refine List.forall_mem_cons.2 ⟨⟨_, Tryz.r64, Tryz.func64, Tryz.i64_ok⟩, ?_⟩
  refine List.forall_mem_cons.2 ⟨⟨_, Tryz.r65, Tryz.func65, Tryz.i65_ok⟩, ?_⟩
  refine List.forall_mem_cons.2 ⟨⟨_, Tryz.r66, Tryz.func66, Tryz.i66_ok⟩, ?_⟩
  refine List.forall_mem_cons.2 ⟨⟨_, Tryz.r67, Tryz.func67, Tryz.i67_ok⟩, ?_⟩
  refine List.forall_mem_cons.2 ⟨⟨_, Tryz.r68, Tryz.func68, Tryz.i68_ok⟩, ?_⟩
  refine List.forall_mem_cons.2 ⟨⟨_, Tryz.r69, Tryz.func69, Tryz.i69_ok⟩, ?_⟩
  refine List.forall_mem_cons.2 ⟨⟨_, Tryz.r70, Tryz.func70, Tryz.i70_ok⟩, ?_⟩
  refine List.forall_mem_cons.2 ⟨⟨_, Tryz.r71, Tryz.func71, Tryz.i71_ok⟩, ?_⟩
  refine List.forall_mem_cons.2 ⟨⟨_, Tryz.r72, Tryz.func72, Tryz.i72_ok⟩, ?_⟩
  refine List.forall_mem_cons.2 ⟨⟨_, Tryz.r73, Tryz.func73, Tryz.i73_ok⟩, ?_⟩
  refine List.forall_mem_cons.2 ⟨⟨_, Tryz.r74, Tryz.func74, Tryz.i74_ok⟩, ?_⟩
  refine List.forall_mem_cons.2 ⟨⟨_, Tryz.r75, Tryz.func75, Tryz.i75_ok⟩, ?_⟩
  refine List.forall_mem_cons.2 ⟨⟨_, Tryz.r76, Tryz.func76, Tryz.i76_ok⟩, ?_⟩
  refine List.forall_mem_cons.2 ⟨⟨_, Tryz.r77, Tryz.func77, Tryz.i77_ok⟩, ?_⟩
  refine List.forall_mem_cons.2 ⟨⟨_, Tryz.r78, Tryz.func78, Tryz.i78_ok⟩, ?_⟩
  refine List.forall_mem_cons.2 ⟨⟨_, Tryz.r79, Tryz.func79, Tryz.i79_ok⟩, ?_⟩
  refine List.forall_mem_cons.2 ⟨⟨_, Tryz.r80, Tryz.func80, Tryz.i80_ok⟩, ?_⟩
  refine List.forall_mem_cons.2 ⟨⟨_, Tryz.r81, Tryz.func81, Tryz.i81_ok⟩, ?_⟩
  refine List.forall_mem_cons.2 ⟨⟨_, Tryz.r82, Tryz.func82, Tryz.i82_ok⟩, ?_⟩
  refine List.forall_mem_cons.2 ⟨⟨_, Tryz.r83, Tryz.func83, Tryz.i83_ok⟩, ?_⟩
  refine List.forall_mem_cons.2 ⟨⟨_, Tryz.r84, Tryz.func84, Tryz.i84_ok⟩, ?_⟩
  refine List.forall_mem_cons.2 ⟨⟨_, Tryz.r85, Tryz.func85, Tryz.i85_ok⟩, ?_⟩
  refine List.forall_mem_cons.2 ⟨⟨_, Tryz.r86, Tryz.func86, Tryz.i86_ok⟩, ?_⟩
  refine List.forall_mem_cons.2 ⟨⟨_, Tryz.r87, Tryz.func87, Tryz.i87_ok⟩, ?_⟩
  refine List.forall_mem_cons.2 ⟨⟨_, Tryz.r88, Tryz.func88, Tryz.i88_ok⟩, ?_⟩
  refine List.forall_mem_cons.2 ⟨⟨_, Tryz.r89, Tryz.func89, Tryz.i89_ok⟩, ?_⟩
  refine List.forall_mem_cons.2 ⟨⟨_, Tryz.r90, Tryz.func90, Tryz.i90_ok⟩, ?_⟩
  refine List.forall_mem_cons.2 ⟨⟨_, Tryz.r91, Tryz.func91, Tryz.i91_ok⟩, ?_⟩
  refine List.forall_mem_cons.2 ⟨⟨_, Tryz.r92, Tryz.func92, Tryz.i92_ok⟩, ?_⟩
  refine List.forall_mem_cons.2 ⟨⟨_, Tryz.r93, Tryz.func93, Tryz.i93_ok⟩, ?_⟩
  refine List.forall_mem_cons.2 ⟨⟨_, Tryz.r94, Tryz.func94, Tryz.i94_ok⟩, ?_⟩
  refine List.forall_mem_cons.2 ⟨⟨_, Tryz.r95, Tryz.func95, Tryz.i95_ok⟩, ?_⟩
  refine List.forall_mem_cons.2 ⟨⟨_, Tryz.r96, Tryz.func96, Tryz.i96_ok⟩, ?_⟩
  refine List.forall_mem_cons.2 ⟨⟨_, Tryz.r97, Tryz.func97, Tryz.i97_ok⟩, ?_⟩
  refine List.forall_mem_cons.2 ⟨⟨_, Tryz.r98, Tryz.func98, Tryz.i98_ok⟩, ?_⟩
  refine List.forall_mem_cons.2 ⟨⟨_, Tryz.r99, Tryz.func99, Tryz.i99_ok⟩, ?_⟩
  refine List.forall_mem_cons.2 ⟨⟨_, Tryz.r100, Tryz.func100, Tryz.i100_ok⟩, ?_⟩
  refine List.forall_mem_cons.2 ⟨⟨_, Tryz.r101, Tryz.func101, Tryz.i101_ok⟩, ?_⟩
  refine List.forall_mem_cons.2 ⟨⟨_, Tryz.r102, Tryz.func102, Tryz.i102_ok⟩, ?_⟩
  refine List.forall_mem_cons.2 ⟨⟨_, Tryz.r103, Tryz.func103, Tryz.i103_ok⟩, ?_⟩
  refine List.forall_mem_cons.2 ⟨⟨_, Tryz.r104, Tryz.func104, Tryz.i104_ok⟩, ?_⟩
  refine List.forall_mem_cons.2 ⟨⟨_, Tryz.r105, Tryz.func105, Tryz.i105_ok⟩, ?_⟩
  refine List.forall_mem_cons.2 ⟨⟨_, Tryz.r106, Tryz.func106, Tryz.i106_ok⟩, ?_⟩
  refine List.forall_mem_cons.2 ⟨⟨_, Tryz.r107, Tryz.func107, Tryz.i107_ok⟩, ?_⟩
  refine List.forall_mem_cons.2 ⟨⟨_, Tryz.r108, Tryz.func108, Tryz.i108_ok⟩, ?_⟩
  refine List.forall_mem_cons.2 ⟨⟨_, Tryz.r109, Tryz.func109, Tryz.i109_ok⟩, ?_⟩
  refine List.forall_mem_cons.2 ⟨⟨_, Tryz.r110, Tryz.func110, Tryz.i110_ok⟩, ?_⟩
  refine List.forall_mem_cons.2 ⟨⟨_, Tryz.r111, Tryz.func111, Tryz.i111_ok⟩, ?_⟩
  refine List.forall_mem_cons.2 ⟨⟨_, Tryz.r112, Tryz.func112, Tryz.i112_ok⟩, ?_⟩
  refine List.forall_mem_cons.2 ⟨⟨_, Tryz.r113, Tryz.func113, Tryz.i113_ok⟩, ?_⟩
  refine List.forall_mem_cons.2 ⟨⟨_, Tryz.r114, Tryz.func114, Tryz.i114_ok⟩, ?_⟩
  refine List.forall_mem_cons.2 ⟨⟨_, Tryz.r115, Tryz.func115, Tryz.i115_ok⟩, ?_⟩
  refine List.forall_mem_cons.2 ⟨⟨_, Tryz.r116, Tryz.func116, Tryz.i116_ok⟩, ?_⟩
  refine List.forall_mem_cons.2 ⟨⟨_, Tryz.r117, Tryz.func117, Tryz.i117_ok⟩, ?_⟩
  refine List.forall_mem_cons.2 ⟨⟨_, Tryz.r118, Tryz.func118, Tryz.i118_ok⟩, ?_⟩
  refine List.forall_mem_cons.2 ⟨⟨_, Tryz.r119, Tryz.func119, Tryz.i119_ok⟩, ?_⟩
  refine List.forall_mem_cons.2 ⟨⟨_, Tryz.r120, Tryz.func120, Tryz.i120_ok⟩, ?_⟩
  refine List.forall_mem_cons.2 ⟨⟨_, Tryz.r121, Tryz.func121, Tryz.i121_ok⟩, ?_⟩
  refine List.forall_mem_cons.2 ⟨⟨_, Tryz.r122, Tryz.func122, Tryz.i122_ok⟩, ?_⟩
  refine List.forall_mem_cons.2 ⟨⟨_, Tryz.r123, Tryz.func123, Tryz.i123_ok⟩, ?_⟩
  refine List.forall_mem_cons.2 ⟨⟨_, Tryz.r124, Tryz.func124, Tryz.i124_ok⟩, ?_⟩
  refine List.forall_mem_cons.2 ⟨⟨_, Tryz.r125, Tryz.func125, Tryz.i125_ok⟩, ?_⟩
  refine List.forall_mem_cons.2 ⟨⟨_, Tryz.r126, Tryz.func126, Tryz.i126_ok⟩, ?_⟩
  refine List.forall_mem_cons.2 ⟨⟨_, Tryz.r127, Tryz.func127, Tryz.i127_ok⟩, ?_⟩
  refine List.forall_mem_cons.2 ⟨⟨_, Tryz.r128, Tryz.func128, Tryz.i128_ok⟩, ?_⟩
  refine List.forall_mem_cons.2 ⟨⟨_, Tryz.r129, Tryz.func129, Tryz.i129_ok⟩, ?_⟩
  refine List.forall_mem_cons.2 ⟨⟨_, Tryz.r130, Tryz.func130, Tryz.i130_ok⟩, ?_⟩
  refine List.forall_mem_cons.2 ⟨⟨_, Tryz.r131, Tryz.func131, Tryz.i131_ok⟩, ?_⟩
  refine List.forall_mem_cons.2 ⟨⟨_, Tryz.r132, Tryz.func132, Tryz.i132_ok⟩, ?_⟩
  refine List.forall_mem_cons.2 ⟨⟨_, Tryz.r133, Tryz.func133, Tryz.i133_ok⟩, ?_⟩
  refine List.forall_mem_cons.2 ⟨⟨_, Tryz.r134, Tryz.func134, Tryz.i134_ok⟩, ?_⟩
  intro p hp; cases hp
theorem lookup_mem {α : Type} {f : Nat} {x : α} : ∀ {l : List (Nat × α)}, l.lookup f = some x → (f, x) ∈ l
  | [], h => by cases h
  | (g, y) :: l, h => by
    simp only [List.lookup] at h
    by_cases hg : f = g
    · subst hg
      simp at h
      subst h
      exact List.mem_cons_self
    · have : (f == g) = false := by simpa using hg
      rw [this] at h
      exact List.mem_cons_of_mem _ (lookup_mem h)
theorem Tryz.ir_ok : ∀ f ifn, Tryz.ir f = some ifn → ∃ fn roots, Tryz.prog.funcs[f]? = some fn ∧ fnOk Tryz.prog roots fn ifn = true := fun _ _ h => Tryz.irs_ok _ (lookup_mem h)
theorem Tryz.ir_3 : Tryz.ir 3 = some Tryz.i3 := by kernel_rfl
theorem Tryz.ir_4 : Tryz.ir 4 = some Tryz.i4 := by kernel_rfl
theorem Tryz.ir_5 : Tryz.ir 5 = some Tryz.i5 := by kernel_rfl
theorem Tryz.ir_6 : Tryz.ir 6 = some Tryz.i6 := by kernel_rfl
theorem Tryz.ir_7 : Tryz.ir 7 = some Tryz.i7 := by kernel_rfl
theorem Tryz.ir_8 : Tryz.ir 8 = some Tryz.i8 := by kernel_rfl
theorem Tryz.ir_9 : Tryz.ir 9 = some Tryz.i9 := by kernel_rfl
theorem Tryz.ir_10 : Tryz.ir 10 = some Tryz.i10 := by kernel_rfl
theorem Tryz.ir_11 : Tryz.ir 11 = some Tryz.i11 := by kernel_rfl
theorem Tryz.ir_12 : Tryz.ir 12 = some Tryz.i12 := by kernel_rfl
theorem Tryz.ir_13 : Tryz.ir 13 = some Tryz.i13 := by kernel_rfl
theorem Tryz.ir_14 : Tryz.ir 14 = some Tryz.i14 := by kernel_rfl
theorem Tryz.ir_15 : Tryz.ir 15 = some Tryz.i15 := by kernel_rfl
theorem Tryz.ir_16 : Tryz.ir 16 = some Tryz.i16 := by kernel_rfl
theorem Tryz.ir_17 : Tryz.ir 17 = some Tryz.i17 := by kernel_rfl
theorem Tryz.ir_18 : Tryz.ir 18 = some Tryz.i18 := by kernel_rfl
theorem Tryz.ir_19 : Tryz.ir 19 = some Tryz.i19 := by kernel_rfl
theorem Tryz.ir_20 : Tryz.ir 20 = some Tryz.i20 := by kernel_rfl
theorem Tryz.ir_21 : Tryz.ir 21 = some Tryz.i21 := by kernel_rfl
theorem Tryz.ir_22 : Tryz.ir 22 = some Tryz.i22 := by kernel_rfl
theorem Tryz.ir_23 : Tryz.ir 23 = some Tryz.i23 := by kernel_rfl
theorem Tryz.ir_24 : Tryz.ir 24 = some Tryz.i24 := by kernel_rfl
theorem Tryz.ir_25 : Tryz.ir 25 = some Tryz.i25 := by kernel_rfl
theorem Tryz.ir_26 : Tryz.ir 26 = some Tryz.i26 := by kernel_rfl
theorem Tryz.ir_27 : Tryz.ir 27 = some Tryz.i27 := by kernel_rfl
theorem Tryz.ir_28 : Tryz.ir 28 = some Tryz.i28 := by kernel_rfl
theorem Tryz.ir_29 : Tryz.ir 29 = some Tryz.i29 := by kernel_rfl
theorem Tryz.ir_30 : Tryz.ir 30 = some Tryz.i30 := by kernel_rfl
theorem Tryz.ir_31 : Tryz.ir 31 = some Tryz.i31 := by kernel_rfl
theorem Tryz.ir_32 : Tryz.ir 32 = some Tryz.i32 := by kernel_rfl
theorem Tryz.ir_33 : Tryz.ir 33 = some Tryz.i33 := by kernel_rfl
theorem Tryz.ir_34 : Tryz.ir 34 = some Tryz.i34 := by kernel_rfl
theorem Tryz.ir_35 : Tryz.ir 35 = some Tryz.i35 := by kernel_rfl
theorem Tryz.ir_36 : Tryz.ir 36 = some Tryz.i36 := by kernel_rfl
theorem Tryz.ir_37 : Tryz.ir 37 = some Tryz.i37 := by kernel_rfl
theorem Tryz.ir_38 : Tryz.ir 38 = some Tryz.i38 := by kernel_rfl
theorem Tryz.ir_39 : Tryz.ir 39 = some Tryz.i39 := by kernel_rfl
theorem Tryz.ir_40 : Tryz.ir 40 = some Tryz.i40 := by kernel_rfl
theorem Tryz.ir_41 : Tryz.ir 41 = some Tryz.i41 := by kernel_rfl
theorem Tryz.ir_42 : Tryz.ir 42 = some Tryz.i42 := by kernel_rfl
theorem Tryz.ir_43 : Tryz.ir 43 = some Tryz.i43 := by kernel_rfl
theorem Tryz.ir_44 : Tryz.ir 44 = some Tryz.i44 := by kernel_rfl
theorem Tryz.ir_45 : Tryz.ir 45 = some Tryz.i45 := by kernel_rfl
theorem Tryz.ir_46 : Tryz.ir 46 = some Tryz.i46 := by kernel_rfl
theorem Tryz.ir_47 : Tryz.ir 47 = some Tryz.i47 := by kernel_rfl
theorem Tryz.ir_48 : Tryz.ir 48 = some Tryz.i48 := by kernel_rfl
theorem Tryz.ir_49 : Tryz.ir 49 = some Tryz.i49 := by kernel_rfl
theorem Tryz.ir_50 : Tryz.ir 50 = some Tryz.i50 := by kernel_rfl
theorem Tryz.ir_51 : Tryz.ir 51 = some Tryz.i51 := by kernel_rfl
theorem Tryz.ir_52 : Tryz.ir 52 = some Tryz.i52 := by kernel_rfl
theorem Tryz.ir_53 : Tryz.ir 53 = some Tryz.i53 := by kernel_rfl
theorem Tryz.ir_54 : Tryz.ir 54 = some Tryz.i54 := by kernel_rfl
theorem Tryz.ir_55 : Tryz.ir 55 = some Tryz.i55 := by kernel_rfl
theorem Tryz.ir_56 : Tryz.ir 56 = some Tryz.i56 := by kernel_rfl
theorem Tryz.ir_57 : Tryz.ir 57 = some Tryz.i57 := by kernel_rfl
theorem Tryz.ir_58 : Tryz.ir 58 = some Tryz.i58 := by kernel_rfl
theorem Tryz.ir_59 : Tryz.ir 59 = some Tryz.i59 := by kernel_rfl
theorem Tryz.ir_60 : Tryz.ir 60 = some Tryz.i60 := by kernel_rfl
theorem Tryz.ir_61 : Tryz.ir 61 = some Tryz.i61 := by kernel_rfl
theorem Tryz.ir_62 : Tryz.ir 62 = some Tryz.i62 := by kernel_rfl
theorem Tryz.ir_63 : Tryz.ir 63 = some Tryz.i63 := by kernel_rfl
theorem Tryz.ir_64 : Tryz.ir 64 = some Tryz.i64 := by kernel_rfl
theorem Tryz.ir_65 : Tryz.ir 65 = some Tryz.i65 := by kernel_rfl
theorem Tryz.ir_66 : Tryz.ir 66 = some Tryz.i66 := by kernel_rfl
theorem Tryz.ir_67 : Tryz.ir 67 = some Tryz.i67 := by kernel_rfl
theorem Tryz.ir_68 : Tryz.ir 68 = some Tryz.i68 := by kernel_rfl
theorem Tryz.ir_69 : Tryz.ir 69 = some Tryz.i69 := by kernel_rfl
theorem Tryz.ir_70 : Tryz.ir 70 = some Tryz.i70 := by kernel_rfl
theorem Tryz.ir_71 : Tryz.ir 71 = some Tryz.i71 := by kernel_rfl
theorem Tryz.ir_72 : Tryz.ir 72 = some Tryz.i72 := by kernel_rfl
theorem Tryz.ir_73 : Tryz.ir 73 = some Tryz.i73 := by kernel_rfl
theorem Tryz.ir_74 : Tryz.ir 74 = some Tryz.i74 := by kernel_rfl
theorem Tryz.ir_75 : Tryz.ir 75 = some Tryz.i75 := by kernel_rfl
theorem Tryz.ir_76 : Tryz.ir 76 = some Tryz.i76 := by kernel_rfl
theorem Tryz.ir_77 : Tryz.ir 77 = some Tryz.i77 := by kernel_rfl
theorem Tryz.ir_78 : Tryz.ir 78 = some Tryz.i78 := by kernel_rfl
theorem Tryz.ir_79 : Tryz.ir 79 = some Tryz.i79 := by kernel_rfl
theorem Tryz.ir_80 : Tryz.ir 80 = some Tryz.i80 := by kernel_rfl
theorem Tryz.ir_81 : Tryz.ir 81 = some Tryz.i81 := by kernel_rfl
theorem Tryz.ir_82 : Tryz.ir 82 = some Tryz.i82 := by kernel_rfl
theorem Tryz.ir_83 : Tryz.ir 83 = some Tryz.i83 := by kernel_rfl
theorem Tryz.ir_84 : Tryz.ir 84 = some Tryz.i84 := by kernel_rfl
theorem Tryz.ir_85 : Tryz.ir 85 = some Tryz.i85 := by kernel_rfl
theorem Tryz.ir_86 : Tryz.ir 86 = some Tryz.i86 := by kernel_rfl
theorem Tryz.ir_87 : Tryz.ir 87 = some Tryz.i87 := by kernel_rfl
theorem Tryz.ir_88 : Tryz.ir 88 = some Tryz.i88 := by kernel_rfl
theorem Tryz.ir_89 : Tryz.ir 89 = some Tryz.i89 := by kernel_rfl
theorem Tryz.ir_90 : Tryz.ir 90 = some Tryz.i90 := by kernel_rfl
theorem Tryz.ir_91 : Tryz.ir 91 = some Tryz.i91 := by kernel_rfl
theorem Tryz.ir_92 : Tryz.ir 92 = some Tryz.i92 := by kernel_rfl
theorem Tryz.ir_93 : Tryz.ir 93 = some Tryz.i93 := by kernel_rfl
theorem Tryz.ir_94 : Tryz.ir 94 = some Tryz.i94 := by kernel_rfl
theorem Tryz.ir_95 : Tryz.ir 95 = some Tryz.i95 := by kernel_rfl
theorem Tryz.ir_96 : Tryz.ir 96 = some Tryz.i96 := by kernel_rfl
theorem Tryz.ir_97 : Tryz.ir 97 = some Tryz.i97 := by kernel_rfl
theorem Tryz.ir_98 : Tryz.ir 98 = some Tryz.i98 := by kernel_rfl
theorem Tryz.ir_99 : Tryz.ir 99 = some Tryz.i99 := by kernel_rfl
theorem Tryz.ir_100 : Tryz.ir 100 = some Tryz.i100 := by kernel_rfl
theorem Tryz.ir_101 : Tryz.ir 101 = some Tryz.i101 := by kernel_rfl
theorem Tryz.ir_102 : Tryz.ir 102 = some Tryz.i102 := by kernel_rfl
theorem Tryz.ir_103 : Tryz.ir 103 = some Tryz.i103 := by kernel_rfl
theorem Tryz.ir_104 : Tryz.ir 104 = some Tryz.i104 := by kernel_rfl
theorem Tryz.ir_105 : Tryz.ir 105 = some Tryz.i105 := by kernel_rfl
theorem Tryz.ir_106 : Tryz.ir 106 = some Tryz.i106 := by kernel_rfl
theorem Tryz.ir_107 : Tryz.ir 107 = some Tryz.i107 := by kernel_rfl
theorem Tryz.ir_108 : Tryz.ir 108 = some Tryz.i108 := by kernel_rfl
theorem Tryz.ir_109 : Tryz.ir 109 = some Tryz.i109 := by kernel_rfl
theorem Tryz.ir_110 : Tryz.ir 110 = some Tryz.i110 := by kernel_rfl
theorem Tryz.ir_111 : Tryz.ir 111 = some Tryz.i111 := by kernel_rfl
theorem Tryz.ir_112 : Tryz.ir 112 = some Tryz.i112 := by kernel_rfl
theorem Tryz.ir_113 : Tryz.ir 113 = some Tryz.i113 := by kernel_rfl
theorem Tryz.ir_114 : Tryz.ir 114 = some Tryz.i114 := by kernel_rfl
theorem Tryz.ir_115 : Tryz.ir 115 = some Tryz.i115 := by kernel_rfl
theorem Tryz.ir_116 : Tryz.ir 116 = some Tryz.i116 := by kernel_rfl
theorem Tryz.ir_117 : Tryz.ir 117 = some Tryz.i117 := by kernel_rfl
theorem Tryz.ir_118 : Tryz.ir 118 = some Tryz.i118 := by kernel_rfl
theorem Tryz.ir_119 : Tryz.ir 119 = some Tryz.i119 := by kernel_rfl
theorem Tryz.ir_120 : Tryz.ir 120 = some Tryz.i120 := by kernel_rfl
theorem Tryz.ir_121 : Tryz.ir 121 = some Tryz.i121 := by kernel_rfl
theorem Tryz.ir_122 : Tryz.ir 122 = some Tryz.i122 := by kernel_rfl
theorem Tryz.ir_123 : Tryz.ir 123 = some Tryz.i123 := by kernel_rfl
theorem Tryz.ir_124 : Tryz.ir 124 = some Tryz.i124 := by kernel_rfl
theorem Tryz.ir_125 : Tryz.ir 125 = some Tryz.i125 := by kernel_rfl
theorem Tryz.ir_126 : Tryz.ir 126 = some Tryz.i126 := by kernel_rfl
theorem Tryz.ir_127 : Tryz.ir 127 = some Tryz.i127 := by kernel_rfl
theorem Tryz.ir_128 : Tryz.ir 128 = some Tryz.i128 := by kernel_rfl
theorem Tryz.ir_129 : Tryz.ir 129 = some Tryz.i129 := by kernel_rfl
theorem Tryz.ir_130 : Tryz.ir 130 = some Tryz.i130 := by kernel_rfl
theorem Tryz.ir_131 : Tryz.ir 131 = some Tryz.i131 := by kernel_rfl
theorem Tryz.ir_132 : Tryz.ir 132 = some Tryz.i132 := by kernel_rfl
theorem Tryz.ir_133 : Tryz.ir 133 = some Tryz.i133 := by kernel_rfl
theorem Tryz.ir_134 : Tryz.ir 134 = some Tryz.i134 := by kernel_rfl
def Tryz.pr : Pr := .n (.n (.n (.n (.n (.n (.n (.n .e (some Tryz.i127) .e) (some Tryz.i63) .e) (some Tryz.i31) (.n .e (some Tryz.i95) .e)) (some Tryz.i15) (.n (.n .e (some Tryz.i79) .e) (some Tryz.i47) (.n .e (some Tryz.i111) .e))) (some Tryz.i7) (.n (.n (.n .e (some Tryz.i71) .e) (some Tryz.i39) (.n .e (some Tryz.i103) .e)) (some Tryz.i23) (.n (.n .e (some Tryz.i87) .e) (some Tryz.i55) (.n .e (some Tryz.i119) .e)))) (some Tryz.i3) (.n (.n (.n (.n (.n .e (some Tryz.i131) .e) (some Tryz.i67) .e) (some Tryz.i35) (.n .e (some Tryz.i99) .e)) (some Tryz.i19) (.n (.n .e (some Tryz.i83) .e) (some Tryz.i51) (.n .e (some Tryz.i115) .e))) (some Tryz.i11) (.n (.n (.n .e (some Tryz.i75) .e) (some Tryz.i43) (.n .e (some Tryz.i107) .e)) (some Tryz.i27) (.n (.n .e (some Tryz.i91) .e) (some Tryz.i59) (.n .e (some Tryz.i123) .e))))) none (.n (.n (.n (.n (.n (.n .e (some Tryz.i129) .e) (some Tryz.i65) .e) (some Tryz.i33) (.n .e (some Tryz.i97) .e)) (some Tryz.i17) (.n (.n .e (some Tryz.i81) .e) (some Tryz.i49) (.n .e (some Tryz.i113) .e))) (some Tryz.i9) (.n (.n (.n .e (some Tryz.i73) .e) (some Tryz.i41) (.n .e (some Tryz.i105) .e)) (some Tryz.i25) (.n (.n .e (some Tryz.i89) .e) (some Tryz.i57) (.n .e (some Tryz.i121) .e)))) (some Tryz.i5) (.n (.n (.n (.n (.n .e (some Tryz.i133) .e) (some Tryz.i69) .e) (some Tryz.i37) (.n .e (some Tryz.i101) .e)) (some Tryz.i21) (.n (.n .e (some Tryz.i85) .e) (some Tryz.i53) (.n .e (some Tryz.i117) .e))) (some Tryz.i13) (.n (.n (.n .e (some Tryz.i77) .e) (some Tryz.i45) (.n .e (some Tryz.i109) .e)) (some Tryz.i29) (.n (.n .e (some Tryz.i93) .e) (some Tryz.i61) (.n .e (some Tryz.i125) .e)))))) none (.n (.n (.n (.n (.n (.n (.n .e (some Tryz.i128) .e) (some Tryz.i64) .e) (some Tryz.i32) (.n .e (some Tryz.i96) .e)) (some Tryz.i16) (.n (.n .e (some Tryz.i80) .e) (some Tryz.i48) (.n .e (some Tryz.i112) .e))) (some Tryz.i8) (.n (.n (.n .e (some Tryz.i72) .e) (some Tryz.i40) (.n .e (some Tryz.i104) .e)) (some Tryz.i24) (.n (.n .e (some Tryz.i88) .e) (some Tryz.i56) (.n .e (some Tryz.i120) .e)))) (some Tryz.i4) (.n (.n (.n (.n (.n .e (some Tryz.i132) .e) (some Tryz.i68) .e) (some Tryz.i36) (.n .e (some Tryz.i100) .e)) (some Tryz.i20) (.n (.n .e (some Tryz.i84) .e) (some Tryz.i52) (.n .e (some Tryz.i116) .e))) (some Tryz.i12) (.n (.n (.n .e (some Tryz.i76) .e) (some Tryz.i44) (.n .e (some Tryz.i108) .e)) (some Tryz.i28) (.n (.n .e (some Tryz.i92) .e) (some Tryz.i60) (.n .e (some Tryz.i124) .e))))) none (.n (.n (.n (.n (.n (.n .e (some Tryz.i130) .e) (some Tryz.i66) .e) (some Tryz.i34) (.n .e (some Tryz.i98) .e)) (some Tryz.i18) (.n (.n .e (some Tryz.i82) .e) (some Tryz.i50) (.n .e (some Tryz.i114) .e))) (some Tryz.i10) (.n (.n (.n .e (some Tryz.i74) .e) (some Tryz.i42) (.n .e (some Tryz.i106) .e)) (some Tryz.i26) (.n (.n .e (some Tryz.i90) .e) (some Tryz.i58) (.n .e (some Tryz.i122) .e)))) (some Tryz.i6) (.n (.n (.n (.n (.n .e (some Tryz.i134) .e) (some Tryz.i70) .e) (some Tryz.i38) (.n .e (some Tryz.i102) .e)) (some Tryz.i22) (.n (.n .e (some Tryz.i86) .e) (some Tryz.i54) (.n .e (some Tryz.i118) .e))) (some Tryz.i14) (.n (.n (.n .e (some Tryz.i78) .e) (some Tryz.i46) (.n .e (some Tryz.i110) .e)) (some Tryz.i30) (.n (.n .e (some Tryz.i94) .e) (some Tryz.i62) (.n .e (some Tryz.i126) .e))))))
theorem Tryz.pr_all : Pr.All (fun f fn => Tryz.ir f = some fn) Tryz.pr id := ⟨(fun _ h => nomatch h), ⟨(fun _ h => nomatch h), ⟨(fun _ h => Tryz.ir_3.trans h), ⟨(fun _ h => Tryz.ir_7.trans h), ⟨(fun _ h => Tryz.ir_15.trans h), ⟨(fun _ h => Tryz.ir_31.trans h), ⟨(fun _ h => Tryz.ir_63.trans h), ⟨(fun _ h => Tryz.ir_127.trans h), trivial, trivial⟩, trivial⟩, ⟨(fun _ h => Tryz.ir_95.trans h), trivial, trivial⟩⟩, ⟨(fun _ h => Tryz.ir_47.trans h), ⟨(fun _ h => Tryz.ir_79.trans h), trivial, trivial⟩, ⟨(fun _ h => Tryz.ir_111.trans h), trivial, trivial⟩⟩⟩, ⟨(fun _ h => Tryz.ir_23.trans h), ⟨(fun _ h => Tryz.ir_39.trans h), ⟨(fun _ h => Tryz.ir_71.trans h), trivial, trivial⟩, ⟨(fun _ h => Tryz.ir_103.trans h), trivial, trivial⟩⟩, ⟨(fun _ h => Tryz.ir_55.trans h), ⟨(fun _ h => Tryz.ir_87.trans h), trivial, trivial⟩, ⟨(fun _ h => Tryz.ir_119.trans h), trivial, trivial⟩⟩⟩⟩, ⟨(fun _ h => Tryz.ir_11.trans h), ⟨(fun _ h => Tryz.ir_19.trans h), ⟨(fun _ h => Tryz.ir_35.trans h), ⟨(fun _ h => Tryz.ir_67.trans h), ⟨(fun _ h => Tryz.ir_131.trans h), trivial, trivial⟩, trivial⟩, ⟨(fun _ h => Tryz.ir_99.trans h), trivial, trivial⟩⟩, ⟨(fun _ h => Tryz.ir_51.trans h), ⟨(fun _ h => Tryz.ir_83.trans h), trivial, trivial⟩, ⟨(fun _ h => Tryz.ir_115.trans h), trivial, trivial⟩⟩⟩, ⟨(fun _ h => Tryz.ir_27.trans h), ⟨(fun _ h => Tryz.ir_43.trans h), ⟨(fun _ h => Tryz.ir_75.trans h), trivial, trivial⟩, ⟨(fun _ h => Tryz.ir_107.trans h), trivial, trivial⟩⟩, ⟨(fun _ h => Tryz.ir_59.trans h), ⟨(fun _ h => Tryz.ir_91.trans h), trivial, trivial⟩, ⟨(fun _ h => Tryz.ir_123.trans h), trivial, trivial⟩⟩⟩⟩⟩, ⟨(fun _ h => Tryz.ir_5.trans h), ⟨(fun _ h => Tryz.ir_9.trans h), ⟨(fun _ h => Tryz.ir_17.trans h), ⟨(fun _ h => Tryz.ir_33.trans h), ⟨(fun _ h => Tryz.ir_65.trans h), ⟨(fun _ h => Tryz.ir_129.trans h), trivial, trivial⟩, trivial⟩, ⟨(fun _ h => Tryz.ir_97.trans h), trivial, trivial⟩⟩, ⟨(fun _ h => Tryz.ir_49.trans h), ⟨(fun _ h => Tryz.ir_81.trans h), trivial, trivial⟩, ⟨(fun _ h => Tryz.ir_113.trans h), trivial, trivial⟩⟩⟩, ⟨(fun _ h => Tryz.ir_25.trans h), ⟨(fun _ h => Tryz.ir_41.trans h), ⟨(fun _ h => Tryz.ir_73.trans h), trivial, trivial⟩, ⟨(fun _ h => Tryz.ir_105.trans h), trivial, trivial⟩⟩, ⟨(fun _ h => Tryz.ir_57.trans h), ⟨(fun _ h => Tryz.ir_89.trans h), trivial, trivial⟩, ⟨(fun _ h => Tryz.ir_121.trans h), trivial, trivial⟩⟩⟩⟩, ⟨(fun _ h => Tryz.ir_13.trans h), ⟨(fun _ h => Tryz.ir_21.trans h), ⟨(fun _ h => Tryz.ir_37.trans h), ⟨(fun _ h => Tryz.ir_69.trans h), ⟨(fun _ h => Tryz.ir_133.trans h), trivial, trivial⟩, trivial⟩, ⟨(fun _ h => Tryz.ir_101.trans h), trivial, trivial⟩⟩, ⟨(fun _ h => Tryz.ir_53.trans h), ⟨(fun _ h => Tryz.ir_85.trans h), trivial, trivial⟩, ⟨(fun _ h => Tryz.ir_117.trans h), trivial, trivial⟩⟩⟩, ⟨(fun _ h => Tryz.ir_29.trans h), ⟨(fun _ h => Tryz.ir_45.trans h), ⟨(fun _ h => Tryz.ir_77.trans h), trivial, trivial⟩, ⟨(fun _ h => Tryz.ir_109.trans h), trivial, trivial⟩⟩, ⟨(fun _ h => Tryz.ir_61.trans h), ⟨(fun _ h => Tryz.ir_93.trans h), trivial, trivial⟩, ⟨(fun _ h => Tryz.ir_125.trans h), trivial, trivial⟩⟩⟩⟩⟩⟩, ⟨(fun _ h => nomatch h), ⟨(fun _ h => Tryz.ir_4.trans h), ⟨(fun _ h => Tryz.ir_8.trans h), ⟨(fun _ h => Tryz.ir_16.trans h), ⟨(fun _ h => Tryz.ir_32.trans h), ⟨(fun _ h => Tryz.ir_64.trans h), ⟨(fun _ h => Tryz.ir_128.trans h), trivial, trivial⟩, trivial⟩, ⟨(fun _ h => Tryz.ir_96.trans h), trivial, trivial⟩⟩, ⟨(fun _ h => Tryz.ir_48.trans h), ⟨(fun _ h => Tryz.ir_80.trans h), trivial, trivial⟩, ⟨(fun _ h => Tryz.ir_112.trans h), trivial, trivial⟩⟩⟩, ⟨(fun _ h => Tryz.ir_24.trans h), ⟨(fun _ h => Tryz.ir_40.trans h), ⟨(fun _ h => Tryz.ir_72.trans h), trivial, trivial⟩, ⟨(fun _ h => Tryz.ir_104.trans h), trivial, trivial⟩⟩, ⟨(fun _ h => Tryz.ir_56.trans h), ⟨(fun _ h => Tryz.ir_88.trans h), trivial, trivial⟩, ⟨(fun _ h => Tryz.ir_120.trans h), trivial, trivial⟩⟩⟩⟩, ⟨(fun _ h => Tryz.ir_12.trans h), ⟨(fun _ h => Tryz.ir_20.trans h), ⟨(fun _ h => Tryz.ir_36.trans h), ⟨(fun _ h => Tryz.ir_68.trans h), ⟨(fun _ h => Tryz.ir_132.trans h), trivial, trivial⟩, trivial⟩, ⟨(fun _ h => Tryz.ir_100.trans h), trivial, trivial⟩⟩, ⟨(fun _ h => Tryz.ir_52.trans h), ⟨(fun _ h => Tryz.ir_84.trans h), trivial, trivial⟩, ⟨(fun _ h => Tryz.ir_116.trans h), trivial, trivial⟩⟩⟩, ⟨(fun _ h => Tryz.ir_28.trans h), ⟨(fun _ h => Tryz.ir_44.trans h), ⟨(fun _ h => Tryz.ir_76.trans h), trivial, trivial⟩, ⟨(fun _ h => Tryz.ir_108.trans h), trivial, trivial⟩⟩, ⟨(fun _ h => Tryz.ir_60.trans h), ⟨(fun _ h => Tryz.ir_92.trans h), trivial, trivial⟩, ⟨(fun _ h => Tryz.ir_124.trans h), trivial, trivial⟩⟩⟩⟩⟩, ⟨(fun _ h => Tryz.ir_6.trans h), ⟨(fun _ h => Tryz.ir_10.trans h), ⟨(fun _ h => Tryz.ir_18.trans h), ⟨(fun _ h => Tryz.ir_34.trans h), ⟨(fun _ h => Tryz.ir_66.trans h), ⟨(fun _ h => Tryz.ir_130.trans h), trivial, trivial⟩, trivial⟩, ⟨(fun _ h => Tryz.ir_98.trans h), trivial, trivial⟩⟩, ⟨(fun _ h => Tryz.ir_50.trans h), ⟨(fun _ h => Tryz.ir_82.trans h), trivial, trivial⟩, ⟨(fun _ h => Tryz.ir_114.trans h), trivial, trivial⟩⟩⟩, ⟨(fun _ h => Tryz.ir_26.trans h), ⟨(fun _ h => Tryz.ir_42.trans h), ⟨(fun _ h => Tryz.ir_74.trans h), trivial, trivial⟩, ⟨(fun _ h => Tryz.ir_106.trans h), trivial, trivial⟩⟩, ⟨(fun _ h => Tryz.ir_58.trans h), ⟨(fun _ h => Tryz.ir_90.trans h), trivial, trivial⟩, ⟨(fun _ h => Tryz.ir_122.trans h), trivial, trivial⟩⟩⟩⟩, ⟨(fun _ h => Tryz.ir_14.trans h), ⟨(fun _ h => Tryz.ir_22.trans h), ⟨(fun _ h => Tryz.ir_38.trans h), ⟨(fun _ h => Tryz.ir_70.trans h), ⟨(fun _ h => Tryz.ir_134.trans h), trivial, trivial⟩, trivial⟩, ⟨(fun _ h => Tryz.ir_102.trans h), trivial, trivial⟩⟩, ⟨(fun _ h => Tryz.ir_54.trans h), ⟨(fun _ h => Tryz.ir_86.trans h), trivial, trivial⟩, ⟨(fun _ h => Tryz.ir_118.trans h), trivial, trivial⟩⟩⟩, ⟨(fun _ h => Tryz.ir_30.trans h), ⟨(fun _ h => Tryz.ir_46.trans h), ⟨(fun _ h => Tryz.ir_78.trans h), trivial, trivial⟩, ⟨(fun _ h => Tryz.ir_110.trans h), trivial, trivial⟩⟩, ⟨(fun _ h => Tryz.ir_62.trans h), ⟨(fun _ h => Tryz.ir_94.trans h), trivial, trivial⟩, ⟨(fun _ h => Tryz.ir_126.trans h), trivial, trivial⟩⟩⟩⟩⟩⟩⟩
theorem Tryz.pr_ok : ∀ f fn, Tryz.pr.get f = some fn → Tryz.ir f = some fn := fun _ _ h => Pr.All_get Tryz.pr_all h
end Go.Proofs.YthakfjlnhldehaaGreat

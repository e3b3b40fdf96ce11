/- The table of the functions in the intermediate language. -/
import Derived.Test.YthnnfemologhfaaIra
import Derived.Test.YthnnfemologhfaaIrb
import Derived.Test.YthnnfemologhfaaAbsF
namespace Go.Proofs.Ythnnfemologhfaa
open Go.Ai
set_option maxRecDepth 100000

theorem Try.mixed : Try.prog.follows .mixedOrders = true := by kernel_rfl
def Try.irs : List (Nat × IFunc) := [(3, Try.i3), (4, Try.i4), (5, Try.i5), (6, Try.i6), (7, Try.i7), (8, Try.i8), (9, Try.i9), (10, Try.i10), (11, Try.i11), (12, Try.i12), (13, Try.i13), (14, Try.i14), (15, Try.i15), (16, Try.i16), (17, Try.i17), (18, Try.i18), (19, Try.i19), (20, Try.i20), (21, Try.i21), (22, Try.i22), (23, Try.i23), (24, Try.i24), (25, Try.i25), (26, Try.i26), (27, Try.i27), (28, Try.i28), (29, Try.i29), (30, Try.i30), (31, Try.i31), (32, Try.i32), (33, Try.i33), (34, Try.i34), (35, Try.i35), (36, Try.i36), (37, Try.i37), (38, Try.i38), (39, Try.i39), (40, Try.i40), (41, Try.i41), (42, Try.i42), (43, Try.i43), (44, Try.i44), (45, Try.i45), (46, Try.i46), (47, Try.i47), (48, Try.i48), (49, Try.i49), (50, Try.i50), (51, Try.i51), (52, Try.i52), (53, Try.i53), (54, Try.i54), (55, Try.i55), (56, Try.i56), (57, Try.i57), (58, Try.i58), (59, Try.i59), (60, Try.i60), (61, Try.i61), (62, Try.i62), (63, Try.i63), (64, Try.i64), (65, Try.i65), (66, Try.i66), (67, Try.i67), (68, Try.i68), (69, Try.i69), (70, Try.i70), (71, Try.i71), (72, Try.i72), (73, Try.i73), (74, Try.i74), (75, Try.i75), (76, Try.i76), (77, Try.i77), (78, Try.i78), (79, Try.i79), (80, Try.i80), (81, Try.i81), (82, Try.i82), (83, Try.i83), (84, Try.i84), (85, Try.i85), (86, Try.i86), (87, Try.i87), (88, Try.i88), (89, Try.i89), (90, Try.i90), (91, Try.i91), (92, Try.i92), (93, Try.i93), (94, Try.i94), (95, Try.i95), (96, Try.i96), (97, Try.i97), (98, Try.i98), (99, Try.i99), (100, Try.i100), (101, Try.i101), (102, Try.i102), (103, Try.i103), (104, Try.i104), (105, Try.i105), (106, Try.i106), (107, Try.i107), (108, Try.i108), (109, Try.i109), (110, Try.i110), (111, Try.i111), (112, Try.i112), (113, Try.i113), (114, Try.i114), (115, Try.i115), (116, Try.i116), (117, Try.i117), (118, Try.i118), (119, Try.i119), (120, Try.i120), (121, Try.i121), (122, Try.i122), (123, Try.i123), (124, Try.i124), (125, Try.i125), (126, Try.i126), (127, Try.i127), (128, Try.i128), (129, Try.i129), (130, Try.i130), (131, Try.i131), (132, Try.i132), (133, Try.i133), (134, Try.i134), (135, Try.i135), (136, Try.i136), (137, Try.i137), (138, Try.i138), (139, Try.i139), (140, Try.i140), (141, Try.i141), (142, Try.i142), (143, Try.i143), (144, Try.i144), (145, Try.i145), (146, Try.i146), (147, Try.i147), (148, Try.i148), (149, Try.i149), (150, Try.i150), (151, Try.i151), (152, Try.i152), (153, Try.i153), (154, Try.i154), (155, Try.i155), (156, Try.i156), (157, Try.i157), (158, Try.i158)]
def Try.ir (f : Nat) : Option IFunc := Try.irs.lookup f
theorem Try.irs_ok : ∀ p ∈ Try.irs, ∃ fn roots, Try.prog.funcs[p.1]? = some fn ∧ fnOk Try.prog roots fn p.2 = true := by
  unfold Try.irs
  refine List.forall_mem_cons.2 ⟨⟨_, Try.r3, Try.func3, Try.i3_ok⟩, ?_⟩
  refine List.forall_mem_cons.2 ⟨⟨_, Try.r4, Try.func4, Try.i4_ok⟩, ?_⟩
  refine List.forall_mem_cons.2 ⟨⟨_, Try.r5, Try.func5, Try.i5_ok⟩, ?_⟩
  refine List.forall_mem_cons.2 ⟨⟨_, Try.r6, Try.func6, Try.i6_ok⟩, ?_⟩
  refine List.forall_mem_cons.2 ⟨⟨_, Try.r7, Try.func7, Try.i7_ok⟩, ?_⟩
  refine List.forall_mem_cons.2 ⟨⟨_, Try.r8, Try.func8, Try.i8_ok⟩, ?_⟩
  refine List.forall_mem_cons.2 ⟨⟨_, Try.r9, Try.func9, Try.i9_ok⟩, ?_⟩
  refine List.forall_mem_cons.2 ⟨⟨_, Try.r10, Try.func10, Try.i10_ok⟩, ?_⟩
  refine List.forall_mem_cons.2 ⟨⟨_, Try.r11, Try.func11, Try.i11_ok⟩, ?_⟩
  refine List.forall_mem_cons.2 ⟨⟨_, Try.r12, Try.func12, Try.i12_ok⟩, ?_⟩
  refine List.forall_mem_cons.2 ⟨⟨_, Try.r13, Try.func13, Try.i13_ok⟩, ?_⟩
  refine List.forall_mem_cons.2 ⟨⟨_, Try.r14, Try.func14, Try.i14_ok⟩, ?_⟩
  refine List.forall_mem_cons.2 ⟨⟨_, Try.r15, Try.func15, Try.i15_ok⟩, ?_⟩
  refine List.forall_mem_cons.2 ⟨⟨_, Try.r16, Try.func16, Try.i16_ok⟩, ?_⟩
  refine List.forall_mem_cons.2 ⟨⟨_, Try.r17, Try.func17, Try.i17_ok⟩, ?_⟩
  refine List.forall_mem_cons.2 ⟨⟨_, Try.r18, Try.func18, Try.i18_ok⟩, ?_⟩
  refine List.forall_mem_cons.2 ⟨⟨_, Try.r19, Try.func19, Try.i19_ok⟩, ?_⟩
  refine List.forall_mem_cons.2 ⟨⟨_, Try.r20, Try.func20, Try.i20_ok⟩, ?_⟩
  refine List.forall_mem_cons.2 ⟨⟨_, Try.r21, Try.func21, Try.i21_ok⟩, ?_⟩
  refine List.forall_mem_cons.2 ⟨⟨_, Try.r22, Try.func22, Try.i22_ok⟩, ?_⟩
  refine List.forall_mem_cons.2 ⟨⟨_, Try.r23, Try.func23, Try.i23_ok⟩, ?_⟩
  refine List.forall_mem_cons.2 ⟨⟨_, Try.r24, Try.func24, Try.i24_ok⟩, ?_⟩
  refine List.forall_mem_cons.2 ⟨⟨_, Try.r25, Try.func25, Try.i25_ok⟩, ?_⟩
  refine List.forall_mem_cons.2 ⟨⟨_, Try.r26, Try.func26, Try.i26_ok⟩, ?_⟩
  refine List.forall_mem_cons.2 ⟨⟨_, Try.r27, Try.func27, Try.i27_ok⟩, ?_⟩
  refine List.forall_mem_cons.2 ⟨⟨_, Try.r28, Try.func28, Try.i28_ok⟩, ?_⟩
  refine List.forall_mem_cons.2 ⟨⟨_, Try.r29, Try.func29, Try.i29_ok⟩, ?_⟩
  refine List.forall_mem_cons.2 ⟨⟨_, Try.r30, Try.func30, Try.i30_ok⟩, ?_⟩
  refine List.forall_mem_cons.2 ⟨⟨_, Try.r31, Try.func31, Try.i31_ok⟩, ?_⟩
  refine List.forall_mem_cons.2 ⟨⟨_, Try.r32, Try.func32, Try.i32_ok⟩, ?_⟩
  refine List.forall_mem_cons.2 ⟨⟨_, Try.r33, Try.func33, Try.i33_ok⟩, ?_⟩
  refine List.forall_mem_cons.2 ⟨⟨_, Try.r34, Try.func34, Try.i34_ok⟩, ?_⟩
  refine List.forall_mem_cons.2 ⟨⟨_, Try.r35, Try.func35, Try.i35_ok⟩, ?_⟩
  refine List.forall_mem_cons.2 ⟨⟨_, Try.r36, Try.func36, Try.i36_ok⟩, ?_⟩
  refine List.forall_mem_cons.2 ⟨⟨_, Try.r37, Try.func37, Try.i37_ok⟩, ?_⟩
  refine List.forall_mem_cons.2 ⟨⟨_, Try.r38, Try.func38, Try.i38_ok⟩, ?_⟩
  refine List.forall_mem_cons.2 ⟨⟨_, Try.r39, Try.func39, Try.i39_ok⟩, ?_⟩
  refine List.forall_mem_cons.2 ⟨⟨_, Try.r40, Try.func40, Try.i40_ok⟩, ?_⟩
  refine List.forall_mem_cons.2 ⟨⟨_, Try.r41, Try.func41, Try.i41_ok⟩, ?_⟩
  refine List.forall_mem_cons.2 ⟨⟨_, Try.r42, Try.func42, Try.i42_ok⟩, ?_⟩
  refine List.forall_mem_cons.2 ⟨⟨_, Try.r43, Try.func43, Try.i43_ok⟩, ?_⟩
  refine List.forall_mem_cons.2 ⟨⟨_, Try.r44, Try.func44, Try.i44_ok⟩, ?_⟩
  refine List.forall_mem_cons.2 ⟨⟨_, Try.r45, Try.func45, Try.i45_ok⟩, ?_⟩
  refine List.forall_mem_cons.2 ⟨⟨_, Try.r46, Try.func46, Try.i46_ok⟩, ?_⟩
  refine List.forall_mem_cons.2 ⟨⟨_, Try.r47, Try.func47, Try.i47_ok⟩, ?_⟩
  refine List.forall_mem_cons.2 ⟨⟨_, Try.r48, Try.func48, Try.i48_ok⟩, ?_⟩
  refine List.forall_mem_cons.2 ⟨⟨_, Try.r49, Try.func49, Try.i49_ok⟩, ?_⟩
  refine List.forall_mem_cons.2 ⟨⟨_, Try.r50, Try.func50, Try.i50_ok⟩, ?_⟩
  refine List.forall_mem_cons.2 ⟨⟨_, Try.r51, Try.func51, Try.i51_ok⟩, ?_⟩
  refine List.forall_mem_cons.2 ⟨⟨_, Try.r52, Try.func52, Try.i52_ok⟩, ?_⟩
  refine List.forall_mem_cons.2 ⟨⟨_, Try.r53, Try.func53, Try.i53_ok⟩, ?_⟩
  refine List.forall_mem_cons.2 ⟨⟨_, Try.r54, Try.func54, Try.i54_ok⟩, ?_⟩
  refine List.forall_mem_cons.2 ⟨⟨_, Try.r55, Try.func55, Try.i55_ok⟩, ?_⟩
  refine List.forall_mem_cons.2 ⟨⟨_, Try.r56, Try.func56, Try.i56_ok⟩, ?_⟩
  refine List.forall_mem_cons.2 ⟨⟨_, Try.r57, Try.func57, Try.i57_ok⟩, ?_⟩
  refine List.forall_mem_cons.2 ⟨⟨_, Try.r58, Try.func58, Try.i58_ok⟩, ?_⟩
  refine List.forall_mem_cons.2 ⟨⟨_, Try.r59, Try.func59, Try.i59_ok⟩, ?_⟩
  refine List.forall_mem_cons.2 ⟨⟨_, Try.r60, Try.func60, Try.i60_ok⟩, ?_⟩
  refine List.forall_mem_cons.2 ⟨⟨_, Try.r61, Try.func61, Try.i61_ok⟩, ?_⟩
  refine List.forall_mem_cons.2 ⟨⟨_, Try.r62, Try.func62, Try.i62_ok⟩, ?_⟩
  refine List.forall_mem_cons.2 ⟨⟨_, Try.r63, Try.func63, Try.i63_ok⟩, ?_⟩
  refine List.forall_mem_cons.2 ⟨⟨_, Try.r64, Try.func64, Try.i64_ok⟩, ?_⟩
  refine List.forall_mem_cons.2 ⟨⟨_, Try.r65, Try.func65, Try.i65_ok⟩, ?_⟩
  refine List.forall_mem_cons.2 ⟨⟨_, Try.r66, Try.func66, Try.i66_ok⟩, ?_⟩
  refine List.forall_mem_cons.2 ⟨⟨_, Try.r67, Try.func67, Try.i67_ok⟩, ?_⟩
  refine List.forall_mem_cons.2 ⟨⟨_, Try.r68, Try.func68, Try.i68_ok⟩, ?_⟩
  refine List.forall_mem_cons.2 ⟨⟨_, Try.r69, Try.func69, Try.i69_ok⟩, ?_⟩
  refine List.forall_mem_cons.2 ⟨⟨_, Try.r70, Try.func70, Try.i70_ok⟩, ?_⟩
  refine List.forall_mem_cons.2 ⟨⟨_, Try.r71, Try.func71, Try.i71_ok⟩, ?_⟩
  refine List.forall_mem_cons.2 ⟨⟨_, Try.r72, Try.func72, Try.i72_ok⟩, ?_⟩
  refine List.forall_mem_cons.2 ⟨⟨_, Try.r73, Try.func73, Try.i73_ok⟩, ?_⟩
  refine List.forall_mem_cons.2 ⟨⟨_, Try.r74, Try.func74, Try.i74_ok⟩, ?_⟩
  refine List.forall_mem_cons.2 ⟨⟨_, Try.r75, Try.func75, Try.i75_ok⟩, ?_⟩
  refine List.forall_mem_cons.2 ⟨⟨_, Try.r76, Try.func76, Try.i76_ok⟩, ?_⟩
  refine List.forall_mem_cons.2 ⟨⟨_, Try.r77, Try.func77, Try.i77_ok⟩, ?_⟩
  refine List.forall_mem_cons.2 ⟨⟨_, Try.r78, Try.func78, Try.i78_ok⟩, ?_⟩
  refine List.forall_mem_cons.2 ⟨⟨_, Try.r79, Try.func79, Try.i79_ok⟩, ?_⟩
  refine List.forall_mem_cons.2 ⟨⟨_, Try.r80, Try.func80, Try.i80_ok⟩, ?_⟩
  refine List.forall_mem_cons.2 ⟨⟨_, Try.r81, Try.func81, Try.i81_ok⟩, ?_⟩
  refine List.forall_mem_cons.2 ⟨⟨_, Try.r82, Try.func82, Try.i82_ok⟩, ?_⟩
  refine List.forall_mem_cons.2 ⟨⟨_, Try.r83, Try.func83, Try.i83_ok⟩, ?_⟩
  refine List.forall_mem_cons.2 ⟨⟨_, Try.r84, Try.func84, Try.i84_ok⟩, ?_⟩
  refine List.forall_mem_cons.2 ⟨⟨_, Try.r85, Try.func85, Try.i85_ok⟩, ?_⟩
  refine List.forall_mem_cons.2 ⟨⟨_, Try.r86, Try.func86, Try.i86_ok⟩, ?_⟩
  refine List.forall_mem_cons.2 ⟨⟨_, Try.r87, Try.func87, Try.i87_ok⟩, ?_⟩
  refine List.forall_mem_cons.2 ⟨⟨_, Try.r88, Try.func88, Try.i88_ok⟩, ?_⟩
  refine List.forall_mem_cons.2 ⟨⟨_, Try.r89, Try.func89, Try.i89_ok⟩, ?_⟩
  refine List.forall_mem_cons.2 ⟨⟨_, Try.r90, Try.func90, Try.i90_ok⟩, ?_⟩
  refine List.forall_mem_cons.2 ⟨⟨_, Try.r91, Try.func91, Try.i91_ok⟩, ?_⟩
  refine List.forall_mem_cons.2 ⟨⟨_, Try.r92, Try.func92, Try.i92_ok⟩, ?_⟩
  refine List.forall_mem_cons.2 ⟨⟨_, Try.r93, Try.func93, Try.i93_ok⟩, ?_⟩
  refine List.forall_mem_cons.2 ⟨⟨_, Try.r94, Try.func94, Try.i94_ok⟩, ?_⟩
  refine List.forall_mem_cons.2 ⟨⟨_, Try.r95, Try.func95, Try.i95_ok⟩, ?_⟩
  refine List.forall_mem_cons.2 ⟨⟨_, Try.r96, Try.func96, Try.i96_ok⟩, ?_⟩
  refine List.forall_mem_cons.2 ⟨⟨_, Try.r97, Try.func97, Try.i97_ok⟩, ?_⟩
  refine List.forall_mem_cons.2 ⟨⟨_, Try.r98, Try.func98, Try.i98_ok⟩, ?_⟩
  refine List.forall_mem_cons.2 ⟨⟨_, Try.r99, Try.func99, Try.i99_ok⟩, ?_⟩
  refine List.forall_mem_cons.2 ⟨⟨_, Try.r100, Try.func100, Try.i100_ok⟩, ?_⟩
  refine List.forall_mem_cons.2 ⟨⟨_, Try.r101, Try.func101, Try.i101_ok⟩, ?_⟩
  refine List.forall_mem_cons.2 ⟨⟨_, Try.r102, Try.func102, Try.i102_ok⟩, ?_⟩
  refine List.forall_mem_cons.2 ⟨⟨_, Try.r103, Try.func103, Try.i103_ok⟩, ?_⟩
  refine List.forall_mem_cons.2 ⟨⟨_, Try.r104, Try.func104, Try.i104_ok⟩, ?_⟩
  refine List.forall_mem_cons.2 ⟨⟨_, Try.r105, Try.func105, Try.i105_ok⟩, ?_⟩
  refine List.forall_mem_cons.2 ⟨⟨_, Try.r106, Try.func106, Try.i106_ok⟩, ?_⟩
  refine List.forall_mem_cons.2 ⟨⟨_, Try.r107, Try.func107, Try.i107_ok⟩, ?_⟩
  refine List.forall_mem_cons.2 ⟨⟨_, Try.r108, Try.func108, Try.i108_ok⟩, ?_⟩
  refine List.forall_mem_cons.2 ⟨⟨_, Try.r109, Try.func109, Try.i109_ok⟩, ?_⟩
  refine List.forall_mem_cons.2 ⟨⟨_, Try.r110, Try.func110, Try.i110_ok⟩, ?_⟩
  refine List.forall_mem_cons.2 ⟨⟨_, Try.r111, Try.func111, Try.i111_ok⟩, ?_⟩
  refine List.forall_mem_cons.2 ⟨⟨_, Try.r112, Try.func112, Try.i112_ok⟩, ?_⟩
  refine List.forall_mem_cons.2 ⟨⟨_, Try.r113, Try.func113, Try.i113_ok⟩, ?_⟩
  refine List.forall_mem_cons.2 ⟨⟨_, Try.r114, Try.func114, Try.i114_ok⟩, ?_⟩
  refine List.forall_mem_cons.2 ⟨⟨_, Try.r115, Try.func115, Try.i115_ok⟩, ?_⟩
  refine List.forall_mem_cons.2 ⟨⟨_, Try.r116, Try.func116, Try.i116_ok⟩, ?_⟩
  refine List.forall_mem_cons.2 ⟨⟨_, Try.r117, Try.func117, Try.i117_ok⟩, ?_⟩
  refine List.forall_mem_cons.2 ⟨⟨_, Try.r118, Try.func118, Try.i118_ok⟩, ?_⟩
  refine List.forall_mem_cons.2 ⟨⟨_, Try.r119, Try.func119, Try.i119_ok⟩, ?_⟩
  refine List.forall_mem_cons.2 ⟨⟨_, Try.r120, Try.func120, Try.i120_ok⟩, ?_⟩
  refine List.forall_mem_cons.2 ⟨⟨_, Try.r121, Try.func121, Try.i121_ok⟩, ?_⟩
  refine List.forall_mem_cons.2 ⟨⟨_, Try.r122, Try.func122, Try.i122_ok⟩, ?_⟩
  refine List.forall_mem_cons.2 ⟨⟨_, Try.r123, Try.func123, Try.i123_ok⟩, ?_⟩
  refine List.forall_mem_cons.2 ⟨⟨_, Try.r124, Try.func124, Try.i124_ok⟩, ?_⟩
  refine List.forall_mem_cons.2 ⟨⟨_, Try.r125, Try.func125, Try.i125_ok⟩, ?_⟩
  refine List.forall_mem_cons.2 ⟨⟨_, Try.r126, Try.func126, Try.i126_ok⟩, ?_⟩
  refine List.forall_mem_cons.2 ⟨⟨_, Try.r127, Try.func127, Try.i127_ok⟩, ?_⟩
  refine List.forall_mem_cons.2 ⟨⟨_, Try.r128, Try.func128, Try.i128_ok⟩, ?_⟩
  refine List.forall_mem_cons.2 ⟨⟨_, Try.r129, Try.func129, Try.i129_ok⟩, ?_⟩
  refine List.forall_mem_cons.2 ⟨⟨_, Try.r130, Try.func130, Try.i130_ok⟩, ?_⟩
  refine List.forall_mem_cons.2 ⟨⟨_, Try.r131, Try.func131, Try.i131_ok⟩, ?_⟩
  refine List.forall_mem_cons.2 ⟨⟨_, Try.r132, Try.func132, Try.i132_ok⟩, ?_⟩
  refine List.forall_mem_cons.2 ⟨⟨_, Try.r133, Try.func133, Try.i133_ok⟩, ?_⟩
  refine List.forall_mem_cons.2 ⟨⟨_, Try.r134, Try.func134, Try.i134_ok⟩, ?_⟩
  refine List.forall_mem_cons.2 ⟨⟨_, Try.r135, Try.func135, Try.i135_ok⟩, ?_⟩
  refine List.forall_mem_cons.2 ⟨⟨_, Try.r136, Try.func136, Try.i136_ok⟩, ?_⟩
  refine List.forall_mem_cons.2 ⟨⟨_, Try.r137, Try.func137, Try.i137_ok⟩, ?_⟩
  refine List.forall_mem_cons.2 ⟨⟨_, Try.r138, Try.func138, Try.i138_ok⟩, ?_⟩
  refine List.forall_mem_cons.2 ⟨⟨_, Try.r139, Try.func139, Try.i139_ok⟩, ?_⟩
  refine List.forall_mem_cons.2 ⟨⟨_, Try.r140, Try.func140, Try.i140_ok⟩, ?_⟩
  refine List.forall_mem_cons.2 ⟨⟨_, Try.r141, Try.func141, Try.i141_ok⟩, ?_⟩
  refine List.forall_mem_cons.2 ⟨⟨_, Try.r142, Try.func142, Try.i142_ok⟩, ?_⟩
  refine List.forall_mem_cons.2 ⟨⟨_, Try.r143, Try.func143, Try.i143_ok⟩, ?_⟩
  refine List.forall_mem_cons.2 ⟨⟨_, Try.r144, Try.func144, Try.i144_ok⟩, ?_⟩
  refine List.forall_mem_cons.2 ⟨⟨_, Try.r145, Try.func145, Try.i145_ok⟩, ?_⟩
  refine List.forall_mem_cons.2 ⟨⟨_, Try.r146, Try.func146, Try.i146_ok⟩, ?_⟩
  refine List.forall_mem_cons.2 ⟨⟨_, Try.r147, Try.func147, Try.i147_ok⟩, ?_⟩
  refine List.forall_mem_cons.2 ⟨⟨_, Try.r148, Try.func148, Try.i148_ok⟩, ?_⟩
  refine List.forall_mem_cons.2 ⟨⟨_, Try.r149, Try.func149, Try.i149_ok⟩, ?_⟩
  refine List.forall_mem_cons.2 ⟨⟨_, Try.r150, Try.func150, Try.i150_ok⟩, ?_⟩
  refine List.forall_mem_cons.2 ⟨⟨_, Try.r151, Try.func151, Try.i151_ok⟩, ?_⟩
  refine List.forall_mem_cons.2 ⟨⟨_, Try.r152, Try.func152, Try.i152_ok⟩, ?_⟩
  refine List.forall_mem_cons.2 ⟨⟨_, Try.r153, Try.func153, Try.i153_ok⟩, ?_⟩
  refine List.forall_mem_cons.2 ⟨⟨_, Try.r154, Try.func154, Try.i154_ok⟩, ?_⟩
  refine List.forall_mem_cons.2 ⟨⟨_, Try.r155, Try.func155, Try.i155_ok⟩, ?_⟩
  refine List.forall_mem_cons.2 ⟨⟨_, Try.r156, Try.func156, Try.i156_ok⟩, ?_⟩
  refine List.forall_mem_cons.2 ⟨⟨_, Try.r157, Try.func157, Try.i157_ok⟩, ?_⟩
  refine List.forall_mem_cons.2 ⟨⟨_, Try.r158, Try.func158, Try.i158_ok⟩, ?_⟩
  intro p hp; cases hp
theorem lookup_mem {α : Type} {f : Nat} {x : α} : ∀ {l : List (Nat × α)}, l.lookup f = some x → (f, x) ∈ l
  | [], h => by cases h
  | (g, y) :: l, h => by
    simp only [List.lookup] at h
    by_cases hg : f = g
    · subst hg
      simp at h
      subst h
      exact List.mem_cons_self
    · have : (f == g) = false := by simpa using hg
      rw [this] at h
      exact List.mem_cons_of_mem _ (lookup_mem h)
theorem Try.ir_ok : ∀ f ifn, Try.ir f = some ifn → ∃ fn roots, Try.prog.funcs[f]? = some fn ∧ fnOk Try.prog roots fn ifn = true := fun _ _ h => Try.irs_ok _ (lookup_mem h)
theorem Try.ir_3 : Try.ir 3 = some Try.i3 := by kernel_rfl
theorem Try.ir_4 : Try.ir 4 = some Try.i4 := by kernel_rfl
theorem Try.ir_5 : Try.ir 5 = some Try.i5 := by kernel_rfl
theorem Try.ir_6 : Try.ir 6 = some Try.i6 := by kernel_rfl
theorem Try.ir_7 : Try.ir 7 = some Try.i7 := by kernel_rfl
theorem Try.ir_8 : Try.ir 8 = some Try.i8 := by kernel_rfl
theorem Try.ir_9 : Try.ir 9 = some Try.i9 := by kernel_rfl
theorem Try.ir_10 : Try.ir 10 = some Try.i10 := by kernel_rfl
theorem Try.ir_11 : Try.ir 11 = some Try.i11 := by kernel_rfl
theorem Try.ir_12 : Try.ir 12 = some Try.i12 := by kernel_rfl
theorem Try.ir_13 : Try.ir 13 = some Try.i13 := by kernel_rfl
theorem Try.ir_14 : Try.ir 14 = some Try.i14 := by kernel_rfl
theorem Try.ir_15 : Try.ir 15 = some Try.i15 := by kernel_rfl
theorem Try.ir_16 : Try.ir 16 = some Try.i16 := by kernel_rfl
theorem Try.ir_17 : Try.ir 17 = some Try.i17 := by kernel_rfl
theorem Try.ir_18 : Try.ir 18 = some Try.i18 := by kernel_rfl
theorem Try.ir_19 : Try.ir 19 = some Try.i19 := by kernel_rfl
theorem Try.ir_20 : Try.ir 20 = some Try.i20 := by kernel_rfl
theorem Try.ir_21 : Try.ir 21 = some Try.i21 := by kernel_rfl
theorem Try.ir_22 : Try.ir 22 = some Try.i22 := by kernel_rfl
theorem Try.ir_23 : Try.ir 23 = some Try.i23 := by kernel_rfl
theorem Try.ir_24 : Try.ir 24 = some Try.i24 := by kernel_rfl
theorem Try.ir_25 : Try.ir 25 = some Try.i25 := by kernel_rfl
theorem Try.ir_26 : Try.ir 26 = some Try.i26 := by kernel_rfl
theorem Try.ir_27 : Try.ir 27 = some Try.i27 := by kernel_rfl
theorem Try.ir_28 : Try.ir 28 = some Try.i28 := by kernel_rfl
theorem Try.ir_29 : Try.ir 29 = some Try.i29 := by kernel_rfl
theorem Try.ir_30 : Try.ir 30 = some Try.i30 := by kernel_rfl
theorem Try.ir_31 : Try.ir 31 = some Try.i31 := by kernel_rfl
theorem Try.ir_32 : Try.ir 32 = some Try.i32 := by kernel_rfl
theorem Try.ir_33 : Try.ir 33 = some Try.i33 := by kernel_rfl
theorem Try.ir_34 : Try.ir 34 = some Try.i34 := by kernel_rfl
theorem Try.ir_35 : Try.ir 35 = some Try.i35 := by kernel_rfl
theorem Try.ir_36 : Try.ir 36 = some Try.i36 := by kernel_rfl
theorem Try.ir_37 : Try.ir 37 = some Try.i37 := by kernel_rfl
theorem Try.ir_38 : Try.ir 38 = some Try.i38 := by kernel_rfl
theorem Try.ir_39 : Try.ir 39 = some Try.i39 := by kernel_rfl
theorem Try.ir_40 : Try.ir 40 = some Try.i40 := by kernel_rfl
theorem Try.ir_41 : Try.ir 41 = some Try.i41 := by kernel_rfl
theorem Try.ir_42 : Try.ir 42 = some Try.i42 := by kernel_rfl
theorem Try.ir_43 : Try.ir 43 = some Try.i43 := by kernel_rfl
theorem Try.ir_44 : Try.ir 44 = some Try.i44 := by kernel_rfl
theorem Try.ir_45 : Try.ir 45 = some Try.i45 := by kernel_rfl
theorem Try.ir_46 : Try.ir 46 = some Try.i46 := by kernel_rfl
theorem Try.ir_47 : Try.ir 47 = some Try.i47 := by kernel_rfl
theorem Try.ir_48 : Try.ir 48 = some Try.i48 := by kernel_rfl
theorem Try.ir_49 : Try.ir 49 = some Try.i49 := by kernel_rfl
theorem Try.ir_50 : Try.ir 50 = some Try.i50 := by kernel_rfl
theorem Try.ir_51 : Try.ir 51 = some Try.i51 := by kernel_rfl
theorem Try.ir_52 : Try.ir 52 = some Try.i52 := by kernel_rfl
theorem Try.ir_53 : Try.ir 53 = some Try.i53 := by kernel_rfl
theorem Try.ir_54 : Try.ir 54 = some Try.i54 := by kernel_rfl
theorem Try.ir_55 : Try.ir 55 = some Try.i55 := by kernel_rfl
theorem Try.ir_56 : Try.ir 56 = some Try.i56 := by kernel_rfl
theorem Try.ir_57 : Try.ir 57 = some Try.i57 := by kernel_rfl
theorem Try.ir_58 : Try.ir 58 = some Try.i58 := by kernel_rfl
theorem Try.ir_59 : Try.ir 59 = some Try.i59 := by kernel_rfl
theorem Try.ir_60 : Try.ir 60 = some Try.i60 := by kernel_rfl
theorem Try.ir_61 : Try.ir 61 = some Try.i61 := by kernel_rfl
theorem Try.ir_62 : Try.ir 62 = some Try.i62 := by kernel_rfl
theorem Try.ir_63 : Try.ir 63 = some Try.i63 := by kernel_rfl
theorem Try.ir_64 : Try.ir 64 = some Try.i64 := by kernel_rfl
theorem Try.ir_65 : Try.ir 65 = some Try.i65 := by kernel_rfl
theorem Try.ir_66 : Try.ir 66 = some Try.i66 := by kernel_rfl
theorem Try.ir_67 : Try.ir 67 = some Try.i67 := by kernel_rfl
theorem Try.ir_68 : Try.ir 68 = some Try.i68 := by kernel_rfl
theorem Try.ir_69 : Try.ir 69 = some Try.i69 := by kernel_rfl
theorem Try.ir_70 : Try.ir 70 = some Try.i70 := by kernel_rfl
theorem Try.ir_71 : Try.ir 71 = some Try.i71 := by kernel_rfl
theorem Try.ir_72 : Try.ir 72 = some Try.i72 := by kernel_rfl
theorem Try.ir_73 : Try.ir 73 = some Try.i73 := by kernel_rfl
theorem Try.ir_74 : Try.ir 74 = some Try.i74 := by kernel_rfl
theorem Try.ir_75 : Try.ir 75 = some Try.i75 := by kernel_rfl
theorem Try.ir_76 : Try.ir 76 = some Try.i76 := by kernel_rfl
theorem Try.ir_77 : Try.ir 77 = some Try.i77 := by kernel_rfl
theorem Try.ir_78 : Try.ir 78 = some Try.i78 := by kernel_rfl
theorem Try.ir_79 : Try.ir 79 = some Try.i79 := by kernel_rfl
theorem Try.ir_80 : Try.ir 80 = some Try.i80 := by kernel_rfl
theorem Try.ir_81 : Try.ir 81 = some Try.i81 := by kernel_rfl
theorem Try.ir_82 : Try.ir 82 = some Try.i82 := by kernel_rfl
theorem Try.ir_83 : Try.ir 83 = some Try.i83 := by kernel_rfl
theorem Try.ir_84 : Try.ir 84 = some Try.i84 := by kernel_rfl
theorem Try.ir_85 : Try.ir 85 = some Try.i85 := by kernel_rfl
theorem Try.ir_86 : Try.ir 86 = some Try.i86 := by kernel_rfl
theorem Try.ir_87 : Try.ir 87 = some Try.i87 := by kernel_rfl
theorem Try.ir_88 : Try.ir 88 = some Try.i88 := by kernel_rfl
theorem Try.ir_89 : Try.ir 89 = some Try.i89 := by kernel_rfl
theorem Try.ir_90 : Try.ir 90 = some Try.i90 := by kernel_rfl
theorem Try.ir_91 : Try.ir 91 = some Try.i91 := by kernel_rfl
theorem Try.ir_92 : Try.ir 92 = some Try.i92 := by kernel_rfl
theorem Try.ir_93 : Try.ir 93 = some Try.i93 := by kernel_rfl
theorem Try.ir_94 : Try.ir 94 = some Try.i94 := by kernel_rfl
theorem Try.ir_95 : Try.ir 95 = some Try.i95 := by kernel_rfl
theorem Try.ir_96 : Try.ir 96 = some Try.i96 := by kernel_rfl
theorem Try.ir_97 : Try.ir 97 = some Try.i97 := by kernel_rfl
theorem Try.ir_98 : Try.ir 98 = some Try.i98 := by kernel_rfl
theorem Try.ir_99 : Try.ir 99 = some Try.i99 := by kernel_rfl
theorem Try.ir_100 : Try.ir 100 = some Try.i100 := by kernel_rfl
theorem Try.ir_101 : Try.ir 101 = some Try.i101 := by kernel_rfl
theorem Try.ir_102 : Try.ir 102 = some Try.i102 := by kernel_rfl
theorem Try.ir_103 : Try.ir 103 = some Try.i103 := by kernel_rfl
theorem Try.ir_104 : Try.ir 104 = some Try.i104 := by kernel_rfl
theorem Try.ir_105 : Try.ir 105 = some Try.i105 := by kernel_rfl
theorem Try.ir_106 : Try.ir 106 = some Try.i106 := by kernel_rfl
theorem Try.ir_107 : Try.ir 107 = some Try.i107 := by kernel_rfl
theorem Try.ir_108 : Try.ir 108 = some Try.i108 := by kernel_rfl
theorem Try.ir_109 : Try.ir 109 = some Try.i109 := by kernel_rfl
theorem Try.ir_110 : Try.ir 110 = some Try.i110 := by kernel_rfl
theorem Try.ir_111 : Try.ir 111 = some Try.i111 := by kernel_rfl
theorem Try.ir_112 : Try.ir 112 = some Try.i112 := by kernel_rfl
theorem Try.ir_113 : Try.ir 113 = some Try.i113 := by kernel_rfl
theorem Try.ir_114 : Try.ir 114 = some Try.i114 := by kernel_rfl
theorem Try.ir_115 : Try.ir 115 = some Try.i115 := by kernel_rfl
theorem Try.ir_116 : Try.ir 116 = some Try.i116 := by kernel_rfl
theorem Try.ir_117 : Try.ir 117 = some Try.i117 := by kernel_rfl
theorem Try.ir_118 : Try.ir 118 = some Try.i118 := by kernel_rfl
theorem Try.ir_119 : Try.ir 119 = some Try.i119 := by kernel_rfl
theorem Try.ir_120 : Try.ir 120 = some Try.i120 := by kernel_rfl
theorem Try.ir_121 : Try.ir 121 = some Try.i121 := by kernel_rfl
theorem Try.ir_122 : Try.ir 122 = some Try.i122 := by kernel_rfl
theorem Try.ir_123 : Try.ir 123 = some Try.i123 := by kernel_rfl
theorem Try.ir_124 : Try.ir 124 = some Try.i124 := by kernel_rfl
theorem Try.ir_125 : Try.ir 125 = some Try.i125 := by kernel_rfl
theorem Try.ir_126 : Try.ir 126 = some Try.i126 := by kernel_rfl
theorem Try.ir_127 : Try.ir 127 = some Try.i127 := by kernel_rfl
theorem Try.ir_128 : Try.ir 128 = some Try.i128 := by kernel_rfl
theorem Try.ir_129 : Try.ir 129 = some Try.i129 := by kernel_rfl
theorem Try.ir_130 : Try.ir 130 = some Try.i130 := by kernel_rfl
theorem Try.ir_131 : Try.ir 131 = some Try.i131 := by kernel_rfl
theorem Try.ir_132 : Try.ir 132 = some Try.i132 := by kernel_rfl
theorem Try.ir_133 : Try.ir 133 = some Try.i133 := by kernel_rfl
theorem Try.ir_134 : Try.ir 134 = some Try.i134 := by kernel_rfl
theorem Try.ir_135 : Try.ir 135 = some Try.i135 := by kernel_rfl
theorem Try.ir_136 : Try.ir 136 = some Try.i136 := by kernel_rfl
theorem Try.ir_137 : Try.ir 137 = some Try.i137 := by kernel_rfl
theorem Try.ir_138 : Try.ir 138 = some Try.i138 := by kernel_rfl
theorem Try.ir_139 : Try.ir 139 = some Try.i139 := by kernel_rfl
theorem Try.ir_140 : Try.ir 140 = some Try.i140 := by kernel_rfl
theorem Try.ir_141 : Try.ir 141 = some Try.i141 := by kernel_rfl
theorem Try.ir_142 : Try.ir 142 = some Try.i142 := by kernel_rfl
theorem Try.ir_143 : Try.ir 143 = some Try.i143 := by kernel_rfl
theorem Try.ir_144 : Try.ir 144 = some Try.i144 := by kernel_rfl
theorem Try.ir_145 : Try.ir 145 = some Try.i145 := by kernel_rfl
theorem Try.ir_146 : Try.ir 146 = some Try.i146 := by kernel_rfl
theorem Try.ir_147 : Try.ir 147 = some Try.i147 := by kernel_rfl
theorem Try.ir_148 : Try.ir 148 = some Try.i148 := by kernel_rfl
theorem Try.ir_149 : Try.ir 149 = some Try.i149 := by kernel_rfl
theorem Try.ir_150 : Try.ir 150 = some Try.i150 := by kernel_rfl
theorem Try.ir_151 : Try.ir 151 = some Try.i151 := by kernel_rfl
theorem Try.ir_152 : Try.ir 152 = some Try.i152 := by kernel_rfl
theorem Try.ir_153 : Try.ir 153 = some Try.i153 := by kernel_rfl
theorem Try.ir_154 : Try.ir 154 = some Try.i154 := by kernel_rfl
theorem Try.ir_155 : Try.ir 155 = some Try.i155 := by kernel_rfl
theorem Try.ir_156 : Try.ir 156 = some Try.i156 := by kernel_rfl
theorem Try.ir_157 : Try.ir 157 = some Try.i157 := by kernel_rfl
theorem Try.ir_158 : Try.ir 158 = some Try.i158 := by kernel_rfl
def Try.pr : Pr := .n (.n (.n (.n (.n (.n (.n (.n .e (some Try.i127) .e) (some Try.i63) .e) (some Try.i31) (.n .e (some Try.i95) .e)) (some Try.i15) (.n (.n (.n .e (some Try.i143) .e) (some Try.i79) .e) (some Try.i47) (.n .e (some Try.i111) .e))) (some Try.i7) (.n (.n (.n (.n .e (some Try.i135) .e) (some Try.i71) .e) (some Try.i39) (.n .e (some Try.i103) .e)) (some Try.i23) (.n (.n (.n .e (some Try.i151) .e) (some Try.i87) .e) (some Try.i55) (.n .e (some Try.i119) .e)))) (some Try.i3) (.n (.n (.n (.n (.n .e (some Try.i131) .e) (some Try.i67) .e) (some Try.i35) (.n .e (some Try.i99) .e)) (some Try.i19) (.n (.n (.n .e (some Try.i147) .e) (some Try.i83) .e) (some Try.i51) (.n .e (some Try.i115) .e))) (some Try.i11) (.n (.n (.n (.n .e (some Try.i139) .e) (some Try.i75) .e) (some Try.i43) (.n .e (some Try.i107) .e)) (some Try.i27) (.n (.n (.n .e (some Try.i155) .e) (some Try.i91) .e) (some Try.i59) (.n .e (some Try.i123) .e))))) none (.n (.n (.n (.n (.n (.n .e (some Try.i129) .e) (some Try.i65) .e) (some Try.i33) (.n .e (some Try.i97) .e)) (some Try.i17) (.n (.n (.n .e (some Try.i145) .e) (some Try.i81) .e) (some Try.i49) (.n .e (some Try.i113) .e))) (some Try.i9) (.n (.n (.n (.n .e (some Try.i137) .e) (some Try.i73) .e) (some Try.i41) (.n .e (some Try.i105) .e)) (some Try.i25) (.n (.n (.n .e (some Try.i153) .e) (some Try.i89) .e) (some Try.i57) (.n .e (some Try.i121) .e)))) (some Try.i5) (.n (.n (.n (.n (.n .e (some Try.i133) .e) (some Try.i69) .e) (some Try.i37) (.n .e (some Try.i101) .e)) (some Try.i21) (.n (.n (.n .e (some Try.i149) .e) (some Try.i85) .e) (some Try.i53) (.n .e (some Try.i117) .e))) (some Try.i13) (.n (.n (.n (.n .e (some Try.i141) .e) (some Try.i77) .e) (some Try.i45) (.n .e (some Try.i109) .e)) (some Try.i29) (.n (.n (.n .e (some Try.i157) .e) (some Try.i93) .e) (some Try.i61) (.n .e (some Try.i125) .e)))))) none (.n (.n (.n (.n (.n (.n (.n .e (some Try.i128) .e) (some Try.i64) .e) (some Try.i32) (.n .e (some Try.i96) .e)) (some Try.i16) (.n (.n (.n .e (some Try.i144) .e) (some Try.i80) .e) (some Try.i48) (.n .e (some Try.i112) .e))) (some Try.i8) (.n (.n (.n (.n .e (some Try.i136) .e) (some Try.i72) .e) (some Try.i40) (.n .e (some Try.i104) .e)) (some Try.i24) (.n (.n (.n .e (some Try.i152) .e) (some Try.i88) .e) (some Try.i56) (.n .e (some Try.i120) .e)))) (some Try.i4) (.n (.n (.n (.n (.n .e (some Try.i132) .e) (some Try.i68) .e) (some Try.i36) (.n .e (some Try.i100) .e)) (some Try.i20) (.n (.n (.n .e (some Try.i148) .e) (some Try.i84) .e) (some Try.i52) (.n .e (some Try.i116) .e))) (some Try.i12) (.n (.n (.n (.n .e (some Try.i140) .e) (some Try.i76) .e) (some Try.i44) (.n .e (some Try.i108) .e)) (some Try.i28) (.n (.n (.n .e (some Try.i156) .e) (some Try.i92) .e) (some Try.i60) (.n .e (some Try.i124) .e))))) none (.n (.n (.n (.n (.n (.n .e (some Try.i130) .e) (some Try.i66) .e) (some Try.i34) (.n .e (some Try.i98) .e)) (some Try.i18) (.n (.n (.n .e (some Try.i146) .e) (some Try.i82) .e) (some Try.i50) (.n .e (some Try.i114) .e))) (some Try.i10) (.n (.n (.n (.n .e (some Try.i138) .e) (some Try.i74) .e) (some Try.i42) (.n .e (some Try.i106) .e)) (some Try.i26) (.n (.n (.n .e (some Try.i154) .e) (some Try.i90) .e) (some Try.i58) (.n .e (some Try.i122) .e)))) (some Try.i6) (.n (.n (.n (.n (.n .e (some Try.i134) .e) (some Try.i70) .e) (some Try.i38) (.n .e (some Try.i102) .e)) (some Try.i22) (.n (.n (.n .e (some Try.i150) .e) (some Try.i86) .e) (some Try.i54) (.n .e (some Try.i118) .e))) (some Try.i14) (.n (.n (.n (.n .e (some Try.i142) .e) (some Try.i78) .e) (some Try.i46) (.n .e (some Try.i110) .e)) (some Try.i30) (.n (.n (.n .e (some Try.i158) .e) (some Try.i94) .e) (some Try.i62) (.n .e (some Try.i126) .e))))))
theorem Try.pr_all : Pr.All (fun f fn => Try.ir f = some fn) Try.pr id := ⟨(fun _ h => nomatch h), ⟨(fun _ h => nomatch h), ⟨(fun _ h => Try.ir_3.trans h), ⟨(fun _ h => Try.ir_7.trans h), ⟨(fun _ h => Try.ir_15.trans h), ⟨(fun _ h => Try.ir_31.trans h), ⟨(fun _ h => Try.ir_63.trans h), ⟨(fun _ h => Try.ir_127.trans h), trivial, trivial⟩, trivial⟩, ⟨(fun _ h => Try.ir_95.trans h), trivial, trivial⟩⟩, ⟨(fun _ h => Try.ir_47.trans h), ⟨(fun _ h => Try.ir_79.trans h), ⟨(fun _ h => Try.ir_143.trans h), trivial, trivial⟩, trivial⟩, ⟨(fun _ h => Try.ir_111.trans h), trivial, trivial⟩⟩⟩, ⟨(fun _ h => Try.ir_23.trans h), ⟨(fun _ h => Try.ir_39.trans h), ⟨(fun _ h => Try.ir_71.trans h), ⟨(fun _ h => Try.ir_135.trans h), trivial, trivial⟩, trivial⟩, ⟨(fun _ h => Try.ir_103.trans h), trivial, trivial⟩⟩, ⟨(fun _ h => Try.ir_55.trans h), ⟨(fun _ h => Try.ir_87.trans h), ⟨(fun _ h => Try.ir_151.trans h), trivial, trivial⟩, trivial⟩, ⟨(fun _ h => Try.ir_119.trans h), trivial, trivial⟩⟩⟩⟩, ⟨(fun _ h => Try.ir_11.trans h), ⟨(fun _ h => Try.ir_19.trans h), ⟨(fun _ h => Try.ir_35.trans h), ⟨(fun _ h => Try.ir_67.trans h), ⟨(fun _ h => Try.ir_131.trans h), trivial, trivial⟩, trivial⟩, ⟨(fun _ h => Try.ir_99.trans h), trivial, trivial⟩⟩, ⟨(fun _ h => Try.ir_51.trans h), ⟨(fun _ h => Try.ir_83.trans h), ⟨(fun _ h => Try.ir_147.trans h), trivial, trivial⟩, trivial⟩, ⟨(fun _ h => Try.ir_115.trans h), trivial, trivial⟩⟩⟩, ⟨(fun _ h => Try.ir_27.trans h), ⟨(fun _ h => Try.ir_43.trans h), ⟨(fun _ h => Try.ir_75.trans h), ⟨(fun _ h => Try.ir_139.trans h), trivial, trivial⟩, trivial⟩, ⟨(fun _ h => Try.ir_107.trans h), trivial, trivial⟩⟩, ⟨(fun _ h => Try.ir_59.trans h), ⟨(fun _ h => Try.ir_91.trans h), ⟨(fun _ h => Try.ir_155.trans h), trivial, trivial⟩, trivial⟩, ⟨(fun _ h => Try.ir_123.trans h), trivial, trivial⟩⟩⟩⟩⟩, ⟨(fun _ h => Try.ir_5.trans h), ⟨(fun _ h => Try.ir_9.trans h), ⟨(fun _ h => Try.ir_17.trans h), ⟨(fun _ h => Try.ir_33.trans h), ⟨(fun _ h => Try.ir_65.trans h), ⟨(fun _ h => Try.ir_129.trans h), trivial, trivial⟩, trivial⟩, ⟨(fun _ h => Try.ir_97.trans h), trivial, trivial⟩⟩, ⟨(fun _ h => Try.ir_49.trans h), ⟨(fun _ h => Try.ir_81.trans h), ⟨(fun _ h => Try.ir_145.trans h), trivial, trivial⟩, trivial⟩, ⟨(fun _ h => Try.ir_113.trans h), trivial, trivial⟩⟩⟩, ⟨(fun _ h => Try.ir_25.trans h), ⟨(fun _ h => Try.ir_41.trans h), ⟨(fun _ h => Try.ir_73.trans h), ⟨(fun _ h => Try.ir_137.trans h), trivial, trivial⟩, trivial⟩, ⟨(fun _ h => Try.ir_105.trans h), trivial, trivial⟩⟩, ⟨(fun _ h => Try.ir_57.trans h), ⟨(fun _ h => Try.ir_89.trans h), ⟨(fun _ h => Try.ir_153.trans h), trivial, trivial⟩, trivial⟩, ⟨(fun _ h => Try.ir_121.trans h), trivial, trivial⟩⟩⟩⟩, ⟨(fun _ h => Try.ir_13.trans h), ⟨(fun _ h => Try.ir_21.trans h), ⟨(fun _ h => Try.ir_37.trans h), ⟨(fun _ h => Try.ir_69.trans h), ⟨(fun _ h => Try.ir_133.trans h), trivial, trivial⟩, trivial⟩, ⟨(fun _ h => Try.ir_101.trans h), trivial, trivial⟩⟩, ⟨(fun _ h => Try.ir_53.trans h), ⟨(fun _ h => Try.ir_85.trans h), ⟨(fun _ h => Try.ir_149.trans h), trivial, trivial⟩, trivial⟩, ⟨(fun _ h => Try.ir_117.trans h), trivial, trivial⟩⟩⟩, ⟨(fun _ h => Try.ir_29.trans h), ⟨(fun _ h => Try.ir_45.trans h), ⟨(fun _ h => Try.ir_77.trans h), ⟨(fun _ h => Try.ir_141.trans h), trivial, trivial⟩, trivial⟩, ⟨(fun _ h => Try.ir_109.trans h), trivial, trivial⟩⟩, ⟨(fun _ h => Try.ir_61.trans h), ⟨(fun _ h => Try.ir_93.trans h), ⟨(fun _ h => Try.ir_157.trans h), trivial, trivial⟩, trivial⟩, ⟨(fun _ h => Try.ir_125.trans h), trivial, trivial⟩⟩⟩⟩⟩⟩, ⟨(fun _ h => nomatch h), ⟨(fun _ h => Try.ir_4.trans h), ⟨(fun _ h => Try.ir_8.trans h), ⟨(fun _ h => Try.ir_16.trans h), ⟨(fun _ h => Try.ir_32.trans h), ⟨(fun _ h => Try.ir_64.trans h), ⟨(fun _ h => Try.ir_128.trans h), trivial, trivial⟩, trivial⟩, ⟨(fun _ h => Try.ir_96.trans h), trivial, trivial⟩⟩, ⟨(fun _ h => Try.ir_48.trans h), ⟨(fun _ h => Try.ir_80.trans h), ⟨(fun _ h => Try.ir_144.trans h), trivial, trivial⟩, trivial⟩, ⟨(fun _ h => Try.ir_112.trans h), trivial, trivial⟩⟩⟩, ⟨(fun _ h => Try.ir_24.trans h), ⟨(fun _ h => Try.ir_40.trans h), ⟨(fun _ h => Try.ir_72.trans h), ⟨(fun _ h => Try.ir_136.trans h), trivial, trivial⟩, trivial⟩, ⟨(fun _ h => Try.ir_104.trans h), trivial, trivial⟩⟩, ⟨(fun _ h => Try.ir_56.trans h), ⟨(fun _ h => Try.ir_88.trans h), ⟨(fun _ h => Try.ir_152.trans h), trivial, trivial⟩, trivial⟩, ⟨(fun _ h => Try.ir_120.trans h), trivial, trivial⟩⟩⟩⟩, ⟨(fun _ h => Try.ir_12.trans h), ⟨(fun _ h => Try.ir_20.trans h), ⟨(fun _ h => Try.ir_36.trans h), ⟨(fun _ h => Try.ir_68.trans h), ⟨(fun _ h => Try.ir_132.trans h), trivial, trivial⟩, trivial⟩, ⟨(fun _ h => Try.ir_100.trans h), trivial, trivial⟩⟩, ⟨(fun _ h => Try.ir_52.trans h), ⟨(fun _ h => Try.ir_84.trans h), ⟨(fun _ h => Try.ir_148.trans h), trivial, trivial⟩, trivial⟩, ⟨(fun _ h => Try.ir_116.trans h), trivial, trivial⟩⟩⟩, ⟨(fun _ h => Try.ir_28.trans h), ⟨(fun _ h => Try.ir_44.trans h), ⟨(fun _ h => Try.ir_76.trans h), ⟨(fun _ h => Try.ir_140.trans h), trivial, trivial⟩, trivial⟩, ⟨(fun _ h => Try.ir_108.trans h), trivial, trivial⟩⟩, ⟨(fun _ h => Try.ir_60.trans h), ⟨(fun _ h => Try.ir_92.trans h), ⟨(fun _ h => Try.ir_156.trans h), trivial, trivial⟩, trivial⟩, ⟨(fun _ h => Try.ir_124.trans h), trivial, trivial⟩⟩⟩⟩⟩, ⟨(fun _ h => Try.ir_6.trans h), ⟨(fun _ h => Try.ir_10.trans h), ⟨(fun _ h => Try.ir_18.trans h), ⟨(fun _ h => Try.ir_34.trans h), ⟨(fun _ h => Try.ir_66.trans h), ⟨(fun _ h => Try.ir_130.trans h), trivial, trivial⟩, trivial⟩, ⟨(fun _ h => Try.ir_98.trans h), trivial, trivial⟩⟩, ⟨(fun _ h => Try.ir_50.trans h), ⟨(fun _ h => Try.ir_82.trans h), ⟨(fun _ h => Try.ir_146.trans h), trivial, trivial⟩, trivial⟩, ⟨(fun _ h => Try.ir_114.trans h), trivial, trivial⟩⟩⟩, ⟨(fun _ h => Try.ir_26.trans h), ⟨(fun _ h => Try.ir_42.trans h), ⟨(fun _ h => Try.ir_74.trans h), ⟨(fun _ h => Try.ir_138.trans h), trivial, trivial⟩, trivial⟩, ⟨(fun _ h => Try.ir_106.trans h), trivial, trivial⟩⟩, ⟨(fun _ h => Try.ir_58.trans h), ⟨(fun _ h => Try.ir_90.trans h), ⟨(fun _ h => Try.ir_154.trans h), trivial, trivial⟩, trivial⟩, ⟨(fun _ h => Try.ir_122.trans h), trivial, trivial⟩⟩⟩⟩, ⟨(fun _ h => Try.ir_14.trans h), ⟨(fun _ h => Try.ir_22.trans h), ⟨(fun _ h => Try.ir_38.trans h), ⟨(fun _ h => Try.ir_70.trans h), ⟨(fun _ h => Try.ir_134.trans h), trivial, trivial⟩, trivial⟩, ⟨(fun _ h => Try.ir_102.trans h), trivial, trivial⟩⟩, ⟨(fun _ h => Try.ir_54.trans h), ⟨(fun _ h => Try.ir_86.trans h), ⟨(fun _ h => Try.ir_150.trans h), trivial, trivial⟩, trivial⟩, ⟨(fun _ h => Try.ir_118.trans h), trivial, trivial⟩⟩⟩, ⟨(fun _ h => Try.ir_30.trans h), ⟨(fun _ h => Try.ir_46.trans h), ⟨(fun _ h => Try.ir_78.trans h), ⟨(fun _ h => Try.ir_142.trans h), trivial, trivial⟩, trivial⟩, ⟨(fun _ h => Try.ir_110.trans h), trivial, trivial⟩⟩, ⟨(fun _ h => Try.ir_62.trans h), ⟨(fun _ h => Try.ir_94.trans h), ⟨(fun _ h => Try.ir_158.trans h), trivial, trivial⟩, trivial⟩, ⟨(fun _ h => Try.ir_126.trans h), trivial, trivial⟩⟩⟩⟩⟩⟩⟩
theorem Try.pr_ok : ∀ f fn, Try.pr.get f = some fn → Try.ir f = some fn := fun _ _ h => Pr.All_get Try.pr_all h
end Go.Proofs.Ythnnfemologhfaa

/- The package flipper: its conditions, as polynomials, and the statement FlipperSamples. -/
import Derived.Test.YthakfjlnhldehaaAt
import Derived.Test.YthakfjlnhldehaaDisc
import Derived.Test.YthakfjlnhldehaaFIns
import Derived.Test.YthakfjlnhldehaaFSamPlain
namespace Go.Proofs.Ythakfjlnhldehaa
open Go.Ai
set_option maxRecDepth 100000

theorem Try.run39_true (p1 p2 v1 v2 h1 h2 : Int) (nm : ByteArray) (lv px py ln lo hi up dn mx rs gr co sw kf kt reach : Int) (fx fy ds t1 t2 t3 t4 t5 t6 t7 t8 t9 t10 t11 t12 t13 t14 t15 t16 t17 t18 t19 t20 t21 t22 t23 t24 t25 t26 t27 t28 t29 t30 t31 t32 t33 t34 : List Rn) (n1 : Runs Try.ir 50 [.agg [.str nm, .int .i64 lv, .int .i64 px, .int .i64 py, .int .i64 ln, .bool true, .int .i64 lo, .int .i64 hi, .int .i64 up, .int .i64 dn, .int .i64 mx, .int .i64 rs, .int .i64 gr, .int .i64 co, .int .i64 sw], .sl 2 [.int .i64 kf, .int .i64 kt]] (.bool true))
    (n2 : Runs Try.ir 61 [.agg [.int .i64 p1, .int .i64 p2, .int .i64 v1, .int .i64 v2, .int .i64 h1, .int .i64 h2]] (.bool true))
    (n3 : Runs Try.ir 51 [.int .i64 1, .int .i64 524288, .sl 1 [.int .i64 reach]] (.bool true))
    (n4 : Runs Try.ir 62 [.agg [.int .i64 p1, .int .i64 p2, .int .i64 v1, .int .i64 v2, .int .i64 h1, .int .i64 h2]] (.tup [.sl fx.length (pc fx), .sl fy.length (pc fy)]))
    (n5 : Runs Try.ir 73 [.sl 1 [.int .i64 px]] (.fresh 2 t1.length (pc t1)))
    (n6 : Runs Try.ir 63 [.sl fx.length (pc fx), .sl t1.length (pc t1)] (.fresh 2 t2.length (pc t2)))
    (n7 : Runs Try.ir 73 [.sl 1 [.int .i64 py]] (.fresh 2 t3.length (pc t3)))
    (n8 : Runs Try.ir 63 [.sl fy.length (pc fy), .sl t3.length (pc t3)] (.fresh 2 t4.length (pc t4)))
    (n9 : Runs Try.ir 73 [.sl 2 [.int .i64 kf, .int .i64 (IntKind.i64.wrap (kt - kf))]] (.fresh 2 t5.length (pc t5)))
    (n10 : Runs Try.ir 66 [.sl t5.length (pc t5), .sl t5.length (pc t5)] (.fresh 2 t6.length (pc t6)))
    (n11 : Runs Try.ir 73 [.sl 1 [.int .i64 65536]] (.fresh 2 t7.length (pc t7)))
    (n12 : Runs Try.ir 63 [.sl t7.length (pc t7), .sl t6.length (pc t6)] (.fresh 2 t8.length (pc t8)))
    (n13 : Runs Try.ir 73 [.sl 1 [.int .i64 512]] (.fresh 2 t9.length (pc t9)))
    (n14 : Runs Try.ir 66 [.sl t9.length (pc t9), .sl t5.length (pc t5)] (.fresh 2 t10.length (pc t10)))
    (n15 : Runs Try.ir 65 [.sl t7.length (pc t7), .sl t6.length (pc t6)] (.fresh 2 t11.length (pc t11)))
    (n16 : Runs Try.ir 74 [.sl t8.length (pc t8)] (.fresh 2 t12.length (pc t12)))
    (n17 : Runs Try.ir 66 [.sl t2.length (pc t2), .sl t2.length (pc t2)] (.fresh 2 t13.length (pc t13)))
    (n18 : Runs Try.ir 66 [.sl t4.length (pc t4), .sl t4.length (pc t4)] (.fresh 2 t14.length (pc t14)))
    (n19 : Runs Try.ir 65 [.sl t13.length (pc t13), .sl t14.length (pc t14)] (.fresh 2 t15.length (pc t15)))
    (n20 : Runs Try.ir 66 [.sl t2.length (pc t2), .sl t12.length (pc t12)] (.fresh 2 t16.length (pc t16)))
    (n21 : Runs Try.ir 66 [.sl t4.length (pc t4), .sl t10.length (pc t10)] (.fresh 2 t17.length (pc t17)))
    (n22 : Runs Try.ir 65 [.sl t16.length (pc t16), .sl t17.length (pc t17)] (.fresh 2 t18.length (pc t18)))
    (n23 : Runs Try.ir 66 [.sl t12.length (pc t12), .sl t4.length (pc t4)] (.fresh 2 t19.length (pc t19)))
    (n24 : Runs Try.ir 66 [.sl t10.length (pc t10), .sl t2.length (pc t2)] (.fresh 2 t20.length (pc t20)))
    (n25 : Runs Try.ir 63 [.sl t19.length (pc t19), .sl t20.length (pc t20)] (.fresh 2 t21.length (pc t21)))
    (n26 : Runs Try.ir 73 [.sl 1 [.int .i64 (IntKind.i64.wrap ((IntKind.i64.wrap (reach * reach)) - (IntKind.i64.wrap (ln * ln))))]] (.fresh 2 t22.length (pc t22)))
    (n27 : Runs Try.ir 63 [.sl t22.length (pc t22), .sl t15.length (pc t15)] (.fresh 2 t23.length (pc t23)))
    (n28 : Runs Try.ir 66 [.sl t11.length (pc t11), .sl t23.length (pc t23)] (.fresh 2 t24.length (pc t24)))
    (n29 : Runs Try.ir 73 [.sl 1 [.int .i64 (IntKind.i64.wrap (2 * ln))]] (.fresh 2 t25.length (pc t25)))
    (n30 : Runs Try.ir 66 [.sl t25.length (pc t25), .sl t18.length (pc t18)] (.fresh 2 t26.length (pc t26)))
    (n31 : Runs Try.ir 65 [.sl t24.length (pc t24), .sl t26.length (pc t26)] (.fresh 2 t27.length (pc t27)))
    (n32 : Runs Try.ir 73 [.sl 1 [.int .i64 reach]] (.fresh 2 t28.length (pc t28)))
    (n33 : Runs Try.ir 66 [.sl t28.length (pc t28), .sl t11.length (pc t11)] (.fresh 2 t29.length (pc t29)))
    (n34 : Runs Try.ir 73 [.sl 1 [.int .i64 ln]] (.fresh 2 t30.length (pc t30)))
    (n35 : Runs Try.ir 66 [.sl t30.length (pc t30), .sl t11.length (pc t11)] (.fresh 2 t31.length (pc t31)))
    (n36 : Runs Try.ir 63 [.sl t31.length (pc t31), .sl t18.length (pc t18)] (.fresh 2 t32.length (pc t32)))
    (n37 : Runs Try.ir 63 [.sl t29.length (pc t29), .sl t21.length (pc t21)] (.fresh 2 t33.length (pc t33)))
    (n38 : Runs Try.ir 65 [.sl t29.length (pc t29), .sl t21.length (pc t21)] (.fresh 2 t34.length (pc t34)))
    (n39 : Runs Try.ir 68 [.agg [.int .i64 p1, .int .i64 p2, .int .i64 v1, .int .i64 v2, .int .i64 h1, .int .i64 h2], .agg [.int .i64 px, .int .i64 py], .int .i64 reach] (.fresh 1 1 [.sl 1 [.sl ds.length (pc ds)]])) : Runs Try.ir 39 [.agg [.int .i64 p1, .int .i64 p2, .int .i64 v1, .int .i64 v2, .int .i64 h1, .int .i64 h2], .agg [.str nm, .int .i64 lv, .int .i64 px, .int .i64 py, .int .i64 ln, .bool true, .int .i64 lo, .int .i64 hi, .int .i64 up, .int .i64 dn, .int .i64 mx, .int .i64 rs, .int .i64 gr, .int .i64 co, .int .i64 sw], .int .i64 kf, .int .i64 kt, .int .i64 reach] (.fresh 1 3 [.sl 1 [.sl ds.length (pc ds)], .sl 1 [.sl t27.length (pc t27)], .sl 4 [.sl t18.length (pc t18), .sl t32.length (pc t32), .sl t33.length (pc t33), .sl t34.length (pc t34)]]) :=
  Runs.script (r := .fresh 1 3 [.sl 1 [.sl ds.length (pc ds)], .sl 1 [.sl t27.length (pc t27)], .sl 4 [.sl t18.length (pc t18), .sl t32.length (pc t32), .sl t33.length (pc t33), .sl t34.length (pc t34)]]) (ps := ((Runs Try.ir 50 [.agg [.str nm, .int .i64 lv, .int .i64 px, .int .i64 py, .int .i64 ln, .bool true, .int .i64 lo, .int .i64 hi, .int .i64 up, .int .i64 dn, .int .i64 mx, .int .i64 rs, .int .i64 gr, .int .i64 co, .int .i64 sw], .sl 2 [.int .i64 kf, .int .i64 kt]] (.bool true)) :: (false = false) :: (Runs Try.ir 61 [.agg [.int .i64 p1, .int .i64 p2, .int .i64 v1, .int .i64 v2, .int .i64 h1, .int .i64 h2]] (.bool true)) :: (false = false) :: (Runs Try.ir 51 [.int .i64 1, .int .i64 524288, .sl 1 [.int .i64 reach]] (.bool true)) :: (false = false) :: (Runs Try.ir 62 [.agg [.int .i64 p1, .int .i64 p2, .int .i64 v1, .int .i64 v2, .int .i64 h1, .int .i64 h2]] (.tup [.sl fx.length (pc fx), .sl fy.length (pc fy)])) :: (Runs Try.ir 73 [.sl 1 [.int .i64 px]] (.fresh 2 t1.length (pc t1))) :: (Runs Try.ir 63 [.sl fx.length (pc fx), .sl t1.length (pc t1)] (.fresh 2 t2.length (pc t2))) :: (Runs Try.ir 73 [.sl 1 [.int .i64 py]] (.fresh 2 t3.length (pc t3))) :: (Runs Try.ir 63 [.sl fy.length (pc fy), .sl t3.length (pc t3)] (.fresh 2 t4.length (pc t4))) :: (Runs Try.ir 73 [.sl 2 [.int .i64 kf, .int .i64 (IntKind.i64.wrap (kt - kf))]] (.fresh 2 t5.length (pc t5))) :: (Runs Try.ir 66 [.sl t5.length (pc t5), .sl t5.length (pc t5)] (.fresh 2 t6.length (pc t6))) :: (Runs Try.ir 73 [.sl 1 [.int .i64 65536]] (.fresh 2 t7.length (pc t7))) :: (Runs Try.ir 63 [.sl t7.length (pc t7), .sl t6.length (pc t6)] (.fresh 2 t8.length (pc t8))) :: (Runs Try.ir 73 [.sl 1 [.int .i64 512]] (.fresh 2 t9.length (pc t9))) :: (Runs Try.ir 66 [.sl t9.length (pc t9), .sl t5.length (pc t5)] (.fresh 2 t10.length (pc t10))) :: (Runs Try.ir 65 [.sl t7.length (pc t7), .sl t6.length (pc t6)] (.fresh 2 t11.length (pc t11))) :: (true = true) :: (Runs Try.ir 74 [.sl t8.length (pc t8)] (.fresh 2 t12.length (pc t12))) :: (Runs Try.ir 66 [.sl t2.length (pc t2), .sl t2.length (pc t2)] (.fresh 2 t13.length (pc t13))) :: (Runs Try.ir 66 [.sl t4.length (pc t4), .sl t4.length (pc t4)] (.fresh 2 t14.length (pc t14))) :: (Runs Try.ir 65 [.sl t13.length (pc t13), .sl t14.length (pc t14)] (.fresh 2 t15.length (pc t15))) :: (Runs Try.ir 66 [.sl t2.length (pc t2), .sl t12.length (pc t12)] (.fresh 2 t16.length (pc t16))) :: (Runs Try.ir 66 [.sl t4.length (pc t4), .sl t10.length (pc t10)] (.fresh 2 t17.length (pc t17))) :: (Runs Try.ir 65 [.sl t16.length (pc t16), .sl t17.length (pc t17)] (.fresh 2 t18.length (pc t18))) :: (Runs Try.ir 66 [.sl t12.length (pc t12), .sl t4.length (pc t4)] (.fresh 2 t19.length (pc t19))) :: (Runs Try.ir 66 [.sl t10.length (pc t10), .sl t2.length (pc t2)] (.fresh 2 t20.length (pc t20))) :: (Runs Try.ir 63 [.sl t19.length (pc t19), .sl t20.length (pc t20)] (.fresh 2 t21.length (pc t21))) :: (Runs Try.ir 73 [.sl 1 [.int .i64 (IntKind.i64.wrap ((IntKind.i64.wrap (reach * reach)) - (IntKind.i64.wrap (ln * ln))))]] (.fresh 2 t22.length (pc t22))) :: (Runs Try.ir 63 [.sl t22.length (pc t22), .sl t15.length (pc t15)] (.fresh 2 t23.length (pc t23))) :: (Runs Try.ir 66 [.sl t11.length (pc t11), .sl t23.length (pc t23)] (.fresh 2 t24.length (pc t24))) :: (Runs Try.ir 73 [.sl 1 [.int .i64 (IntKind.i64.wrap (2 * ln))]] (.fresh 2 t25.length (pc t25))) :: (Runs Try.ir 66 [.sl t25.length (pc t25), .sl t18.length (pc t18)] (.fresh 2 t26.length (pc t26))) :: (Runs Try.ir 65 [.sl t24.length (pc t24), .sl t26.length (pc t26)] (.fresh 2 t27.length (pc t27))) :: (Runs Try.ir 73 [.sl 1 [.int .i64 reach]] (.fresh 2 t28.length (pc t28))) :: (Runs Try.ir 66 [.sl t28.length (pc t28), .sl t11.length (pc t11)] (.fresh 2 t29.length (pc t29))) :: (Runs Try.ir 73 [.sl 1 [.int .i64 ln]] (.fresh 2 t30.length (pc t30))) :: (Runs Try.ir 66 [.sl t30.length (pc t30), .sl t11.length (pc t11)] (.fresh 2 t31.length (pc t31))) :: (Runs Try.ir 63 [.sl t31.length (pc t31), .sl t18.length (pc t18)] (.fresh 2 t32.length (pc t32))) :: (Runs Try.ir 63 [.sl t29.length (pc t29), .sl t21.length (pc t21)] (.fresh 2 t33.length (pc t33))) :: (Runs Try.ir 65 [.sl t29.length (pc t29), .sl t21.length (pc t21)] (.fresh 2 t34.length (pc t34))) :: (Runs Try.ir 68 [.agg [.int .i64 p1, .int .i64 p2, .int .i64 v1, .int .i64 v2, .int .i64 h1, .int .i64 h2], .agg [.int .i64 px, .int .i64 py], .int .i64 reach] (.fresh 1 1 [.sl 1 [.sl ds.length (pc ds)]])) :: (List.length ([.sl 1 [.sl t27.length (pc t27)], .sl 4 [.sl t18.length (pc t18), .sl t32.length (pc t32), .sl t33.length (pc t33), .sl t34.length (pc t34)]] : List AV) = 2 * 1) :: (1 + 2 ≤ 1048576) :: [])) TPA_holds rfl 400 rfl ((.r (.bool true)) :: (.b false) :: (.r (.bool true)) :: (.b false) :: (.r (.bool true)) :: (.b false) :: (.r (.tup [.sl fx.length (pc fx), .sl fy.length (pc fy)])) :: (.r (.fresh 2 t1.length (pc t1))) :: (.r (.fresh 2 t2.length (pc t2))) :: (.r (.fresh 2 t3.length (pc t3))) :: (.r (.fresh 2 t4.length (pc t4))) :: (.r (.fresh 2 t5.length (pc t5))) :: (.r (.fresh 2 t6.length (pc t6))) :: (.r (.fresh 2 t7.length (pc t7))) :: (.r (.fresh 2 t8.length (pc t8))) :: (.r (.fresh 2 t9.length (pc t9))) :: (.r (.fresh 2 t10.length (pc t10))) :: (.r (.fresh 2 t11.length (pc t11))) :: (.b true) :: (.r (.fresh 2 t12.length (pc t12))) :: (.r (.fresh 2 t13.length (pc t13))) :: (.r (.fresh 2 t14.length (pc t14))) :: (.r (.fresh 2 t15.length (pc t15))) :: (.r (.fresh 2 t16.length (pc t16))) :: (.r (.fresh 2 t17.length (pc t17))) :: (.r (.fresh 2 t18.length (pc t18))) :: (.r (.fresh 2 t19.length (pc t19))) :: (.r (.fresh 2 t20.length (pc t20))) :: (.r (.fresh 2 t21.length (pc t21))) :: (.r (.fresh 2 t22.length (pc t22))) :: (.r (.fresh 2 t23.length (pc t23))) :: (.r (.fresh 2 t24.length (pc t24))) :: (.r (.fresh 2 t25.length (pc t25))) :: (.r (.fresh 2 t26.length (pc t26))) :: (.r (.fresh 2 t27.length (pc t27))) :: (.r (.fresh 2 t28.length (pc t28))) :: (.r (.fresh 2 t29.length (pc t29))) :: (.r (.fresh 2 t30.length (pc t30))) :: (.r (.fresh 2 t31.length (pc t31))) :: (.r (.fresh 2 t32.length (pc t32))) :: (.r (.fresh 2 t33.length (pc t33))) :: (.r (.fresh 2 t34.length (pc t34))) :: (.r (.fresh 1 1 [.sl 1 [.sl ds.length (pc ds)]])) :: []) (by kernel_rfl) ⟨n1, rfl, n2, rfl, n3, rfl, n4, n5, n6, n7, n8, n9, n10, n11, n12, n13, n14, n15, rfl, n16, n17, n18, n19, n20, n21, n22, n23, n24, n25, n26, n27, n28, n29, n30, n31, n32, n33, n34, n35, n36, n37, n38, n39, rfl, (by decide), trivial⟩

theorem Try.run39_false (p1 p2 v1 v2 h1 h2 : Int) (nm : ByteArray) (lv px py ln lo hi up dn mx rs gr co sw kf kt reach : Int) (fx fy ds t1 t2 t3 t4 t5 t6 t7 t8 t9 t10 t11 t12 t13 t14 t15 t16 t17 t18 t19 t20 t21 t22 t23 t24 t25 t26 t27 t28 t29 t30 t31 t32 t33 : List Rn) (n1 : Runs Try.ir 50 [.agg [.str nm, .int .i64 lv, .int .i64 px, .int .i64 py, .int .i64 ln, .bool false, .int .i64 lo, .int .i64 hi, .int .i64 up, .int .i64 dn, .int .i64 mx, .int .i64 rs, .int .i64 gr, .int .i64 co, .int .i64 sw], .sl 2 [.int .i64 kf, .int .i64 kt]] (.bool true))
    (n2 : Runs Try.ir 61 [.agg [.int .i64 p1, .int .i64 p2, .int .i64 v1, .int .i64 v2, .int .i64 h1, .int .i64 h2]] (.bool true))
    (n3 : Runs Try.ir 51 [.int .i64 1, .int .i64 524288, .sl 1 [.int .i64 reach]] (.bool true))
    (n4 : Runs Try.ir 62 [.agg [.int .i64 p1, .int .i64 p2, .int .i64 v1, .int .i64 v2, .int .i64 h1, .int .i64 h2]] (.tup [.sl fx.length (pc fx), .sl fy.length (pc fy)]))
    (n5 : Runs Try.ir 73 [.sl 1 [.int .i64 px]] (.fresh 2 t1.length (pc t1)))
    (n6 : Runs Try.ir 63 [.sl fx.length (pc fx), .sl t1.length (pc t1)] (.fresh 2 t2.length (pc t2)))
    (n7 : Runs Try.ir 73 [.sl 1 [.int .i64 py]] (.fresh 2 t3.length (pc t3)))
    (n8 : Runs Try.ir 63 [.sl fy.length (pc fy), .sl t3.length (pc t3)] (.fresh 2 t4.length (pc t4)))
    (n9 : Runs Try.ir 73 [.sl 2 [.int .i64 kf, .int .i64 (IntKind.i64.wrap (kt - kf))]] (.fresh 2 t5.length (pc t5)))
    (n10 : Runs Try.ir 66 [.sl t5.length (pc t5), .sl t5.length (pc t5)] (.fresh 2 t6.length (pc t6)))
    (n11 : Runs Try.ir 73 [.sl 1 [.int .i64 65536]] (.fresh 2 t7.length (pc t7)))
    (n12 : Runs Try.ir 63 [.sl t7.length (pc t7), .sl t6.length (pc t6)] (.fresh 2 t8.length (pc t8)))
    (n13 : Runs Try.ir 73 [.sl 1 [.int .i64 512]] (.fresh 2 t9.length (pc t9)))
    (n14 : Runs Try.ir 66 [.sl t9.length (pc t9), .sl t5.length (pc t5)] (.fresh 2 t10.length (pc t10)))
    (n15 : Runs Try.ir 65 [.sl t7.length (pc t7), .sl t6.length (pc t6)] (.fresh 2 t11.length (pc t11)))
    (n16 : Runs Try.ir 66 [.sl t2.length (pc t2), .sl t2.length (pc t2)] (.fresh 2 t12.length (pc t12)))
    (n17 : Runs Try.ir 66 [.sl t4.length (pc t4), .sl t4.length (pc t4)] (.fresh 2 t13.length (pc t13)))
    (n18 : Runs Try.ir 65 [.sl t12.length (pc t12), .sl t13.length (pc t13)] (.fresh 2 t14.length (pc t14)))
    (n19 : Runs Try.ir 66 [.sl t2.length (pc t2), .sl t8.length (pc t8)] (.fresh 2 t15.length (pc t15)))
    (n20 : Runs Try.ir 66 [.sl t4.length (pc t4), .sl t10.length (pc t10)] (.fresh 2 t16.length (pc t16)))
    (n21 : Runs Try.ir 65 [.sl t15.length (pc t15), .sl t16.length (pc t16)] (.fresh 2 t17.length (pc t17)))
    (n22 : Runs Try.ir 66 [.sl t8.length (pc t8), .sl t4.length (pc t4)] (.fresh 2 t18.length (pc t18)))
    (n23 : Runs Try.ir 66 [.sl t10.length (pc t10), .sl t2.length (pc t2)] (.fresh 2 t19.length (pc t19)))
    (n24 : Runs Try.ir 63 [.sl t18.length (pc t18), .sl t19.length (pc t19)] (.fresh 2 t20.length (pc t20)))
    (n25 : Runs Try.ir 73 [.sl 1 [.int .i64 (IntKind.i64.wrap ((IntKind.i64.wrap (reach * reach)) - (IntKind.i64.wrap (ln * ln))))]] (.fresh 2 t21.length (pc t21)))
    (n26 : Runs Try.ir 63 [.sl t21.length (pc t21), .sl t14.length (pc t14)] (.fresh 2 t22.length (pc t22)))
    (n27 : Runs Try.ir 66 [.sl t11.length (pc t11), .sl t22.length (pc t22)] (.fresh 2 t23.length (pc t23)))
    (n28 : Runs Try.ir 73 [.sl 1 [.int .i64 (IntKind.i64.wrap (2 * ln))]] (.fresh 2 t24.length (pc t24)))
    (n29 : Runs Try.ir 66 [.sl t24.length (pc t24), .sl t17.length (pc t17)] (.fresh 2 t25.length (pc t25)))
    (n30 : Runs Try.ir 65 [.sl t23.length (pc t23), .sl t25.length (pc t25)] (.fresh 2 t26.length (pc t26)))
    (n31 : Runs Try.ir 73 [.sl 1 [.int .i64 reach]] (.fresh 2 t27.length (pc t27)))
    (n32 : Runs Try.ir 66 [.sl t27.length (pc t27), .sl t11.length (pc t11)] (.fresh 2 t28.length (pc t28)))
    (n33 : Runs Try.ir 73 [.sl 1 [.int .i64 ln]] (.fresh 2 t29.length (pc t29)))
    (n34 : Runs Try.ir 66 [.sl t29.length (pc t29), .sl t11.length (pc t11)] (.fresh 2 t30.length (pc t30)))
    (n35 : Runs Try.ir 63 [.sl t30.length (pc t30), .sl t17.length (pc t17)] (.fresh 2 t31.length (pc t31)))
    (n36 : Runs Try.ir 63 [.sl t28.length (pc t28), .sl t20.length (pc t20)] (.fresh 2 t32.length (pc t32)))
    (n37 : Runs Try.ir 65 [.sl t28.length (pc t28), .sl t20.length (pc t20)] (.fresh 2 t33.length (pc t33)))
    (n38 : Runs Try.ir 68 [.agg [.int .i64 p1, .int .i64 p2, .int .i64 v1, .int .i64 v2, .int .i64 h1, .int .i64 h2], .agg [.int .i64 px, .int .i64 py], .int .i64 reach] (.fresh 1 1 [.sl 1 [.sl ds.length (pc ds)]])) : Runs Try.ir 39 [.agg [.int .i64 p1, .int .i64 p2, .int .i64 v1, .int .i64 v2, .int .i64 h1, .int .i64 h2], .agg [.str nm, .int .i64 lv, .int .i64 px, .int .i64 py, .int .i64 ln, .bool false, .int .i64 lo, .int .i64 hi, .int .i64 up, .int .i64 dn, .int .i64 mx, .int .i64 rs, .int .i64 gr, .int .i64 co, .int .i64 sw], .int .i64 kf, .int .i64 kt, .int .i64 reach] (.fresh 1 3 [.sl 1 [.sl ds.length (pc ds)], .sl 1 [.sl t26.length (pc t26)], .sl 4 [.sl t17.length (pc t17), .sl t31.length (pc t31), .sl t32.length (pc t32), .sl t33.length (pc t33)]]) :=
  Runs.script (r := .fresh 1 3 [.sl 1 [.sl ds.length (pc ds)], .sl 1 [.sl t26.length (pc t26)], .sl 4 [.sl t17.length (pc t17), .sl t31.length (pc t31), .sl t32.length (pc t32), .sl t33.length (pc t33)]]) (ps := ((Runs Try.ir 50 [.agg [.str nm, .int .i64 lv, .int .i64 px, .int .i64 py, .int .i64 ln, .bool false, .int .i64 lo, .int .i64 hi, .int .i64 up, .int .i64 dn, .int .i64 mx, .int .i64 rs, .int .i64 gr, .int .i64 co, .int .i64 sw], .sl 2 [.int .i64 kf, .int .i64 kt]] (.bool true)) :: (false = false) :: (Runs Try.ir 61 [.agg [.int .i64 p1, .int .i64 p2, .int .i64 v1, .int .i64 v2, .int .i64 h1, .int .i64 h2]] (.bool true)) :: (false = false) :: (Runs Try.ir 51 [.int .i64 1, .int .i64 524288, .sl 1 [.int .i64 reach]] (.bool true)) :: (false = false) :: (Runs Try.ir 62 [.agg [.int .i64 p1, .int .i64 p2, .int .i64 v1, .int .i64 v2, .int .i64 h1, .int .i64 h2]] (.tup [.sl fx.length (pc fx), .sl fy.length (pc fy)])) :: (Runs Try.ir 73 [.sl 1 [.int .i64 px]] (.fresh 2 t1.length (pc t1))) :: (Runs Try.ir 63 [.sl fx.length (pc fx), .sl t1.length (pc t1)] (.fresh 2 t2.length (pc t2))) :: (Runs Try.ir 73 [.sl 1 [.int .i64 py]] (.fresh 2 t3.length (pc t3))) :: (Runs Try.ir 63 [.sl fy.length (pc fy), .sl t3.length (pc t3)] (.fresh 2 t4.length (pc t4))) :: (Runs Try.ir 73 [.sl 2 [.int .i64 kf, .int .i64 (IntKind.i64.wrap (kt - kf))]] (.fresh 2 t5.length (pc t5))) :: (Runs Try.ir 66 [.sl t5.length (pc t5), .sl t5.length (pc t5)] (.fresh 2 t6.length (pc t6))) :: (Runs Try.ir 73 [.sl 1 [.int .i64 65536]] (.fresh 2 t7.length (pc t7))) :: (Runs Try.ir 63 [.sl t7.length (pc t7), .sl t6.length (pc t6)] (.fresh 2 t8.length (pc t8))) :: (Runs Try.ir 73 [.sl 1 [.int .i64 512]] (.fresh 2 t9.length (pc t9))) :: (Runs Try.ir 66 [.sl t9.length (pc t9), .sl t5.length (pc t5)] (.fresh 2 t10.length (pc t10))) :: (Runs Try.ir 65 [.sl t7.length (pc t7), .sl t6.length (pc t6)] (.fresh 2 t11.length (pc t11))) :: (false = false) :: (Runs Try.ir 66 [.sl t2.length (pc t2), .sl t2.length (pc t2)] (.fresh 2 t12.length (pc t12))) :: (Runs Try.ir 66 [.sl t4.length (pc t4), .sl t4.length (pc t4)] (.fresh 2 t13.length (pc t13))) :: (Runs Try.ir 65 [.sl t12.length (pc t12), .sl t13.length (pc t13)] (.fresh 2 t14.length (pc t14))) :: (Runs Try.ir 66 [.sl t2.length (pc t2), .sl t8.length (pc t8)] (.fresh 2 t15.length (pc t15))) :: (Runs Try.ir 66 [.sl t4.length (pc t4), .sl t10.length (pc t10)] (.fresh 2 t16.length (pc t16))) :: (Runs Try.ir 65 [.sl t15.length (pc t15), .sl t16.length (pc t16)] (.fresh 2 t17.length (pc t17))) :: (Runs Try.ir 66 [.sl t8.length (pc t8), .sl t4.length (pc t4)] (.fresh 2 t18.length (pc t18))) :: (Runs Try.ir 66 [.sl t10.length (pc t10), .sl t2.length (pc t2)] (.fresh 2 t19.length (pc t19))) :: (Runs Try.ir 63 [.sl t18.length (pc t18), .sl t19.length (pc t19)] (.fresh 2 t20.length (pc t20))) :: (Runs Try.ir 73 [.sl 1 [.int .i64 (IntKind.i64.wrap ((IntKind.i64.wrap (reach * reach)) - (IntKind.i64.wrap (ln * ln))))]] (.fresh 2 t21.length (pc t21))) :: (Runs Try.ir 63 [.sl t21.length (pc t21), .sl t14.length (pc t14)] (.fresh 2 t22.length (pc t22))) :: (Runs Try.ir 66 [.sl t11.length (pc t11), .sl t22.length (pc t22)] (.fresh 2 t23.length (pc t23))) :: (Runs Try.ir 73 [.sl 1 [.int .i64 (IntKind.i64.wrap (2 * ln))]] (.fresh 2 t24.length (pc t24))) :: (Runs Try.ir 66 [.sl t24.length (pc t24), .sl t17.length (pc t17)] (.fresh 2 t25.length (pc t25))) :: (Runs Try.ir 65 [.sl t23.length (pc t23), .sl t25.length (pc t25)] (.fresh 2 t26.length (pc t26))) :: (Runs Try.ir 73 [.sl 1 [.int .i64 reach]] (.fresh 2 t27.length (pc t27))) :: (Runs Try.ir 66 [.sl t27.length (pc t27), .sl t11.length (pc t11)] (.fresh 2 t28.length (pc t28))) :: (Runs Try.ir 73 [.sl 1 [.int .i64 ln]] (.fresh 2 t29.length (pc t29))) :: (Runs Try.ir 66 [.sl t29.length (pc t29), .sl t11.length (pc t11)] (.fresh 2 t30.length (pc t30))) :: (Runs Try.ir 63 [.sl t30.length (pc t30), .sl t17.length (pc t17)] (.fresh 2 t31.length (pc t31))) :: (Runs Try.ir 63 [.sl t28.length (pc t28), .sl t20.length (pc t20)] (.fresh 2 t32.length (pc t32))) :: (Runs Try.ir 65 [.sl t28.length (pc t28), .sl t20.length (pc t20)] (.fresh 2 t33.length (pc t33))) :: (Runs Try.ir 68 [.agg [.int .i64 p1, .int .i64 p2, .int .i64 v1, .int .i64 v2, .int .i64 h1, .int .i64 h2], .agg [.int .i64 px, .int .i64 py], .int .i64 reach] (.fresh 1 1 [.sl 1 [.sl ds.length (pc ds)]])) :: (List.length ([.sl 1 [.sl t26.length (pc t26)], .sl 4 [.sl t17.length (pc t17), .sl t31.length (pc t31), .sl t32.length (pc t32), .sl t33.length (pc t33)]] : List AV) = 2 * 1) :: (1 + 2 ≤ 1048576) :: [])) TPA_holds rfl 400 rfl ((.r (.bool true)) :: (.b false) :: (.r (.bool true)) :: (.b false) :: (.r (.bool true)) :: (.b false) :: (.r (.tup [.sl fx.length (pc fx), .sl fy.length (pc fy)])) :: (.r (.fresh 2 t1.length (pc t1))) :: (.r (.fresh 2 t2.length (pc t2))) :: (.r (.fresh 2 t3.length (pc t3))) :: (.r (.fresh 2 t4.length (pc t4))) :: (.r (.fresh 2 t5.length (pc t5))) :: (.r (.fresh 2 t6.length (pc t6))) :: (.r (.fresh 2 t7.length (pc t7))) :: (.r (.fresh 2 t8.length (pc t8))) :: (.r (.fresh 2 t9.length (pc t9))) :: (.r (.fresh 2 t10.length (pc t10))) :: (.r (.fresh 2 t11.length (pc t11))) :: (.b false) :: (.r (.fresh 2 t12.length (pc t12))) :: (.r (.fresh 2 t13.length (pc t13))) :: (.r (.fresh 2 t14.length (pc t14))) :: (.r (.fresh 2 t15.length (pc t15))) :: (.r (.fresh 2 t16.length (pc t16))) :: (.r (.fresh 2 t17.length (pc t17))) :: (.r (.fresh 2 t18.length (pc t18))) :: (.r (.fresh 2 t19.length (pc t19))) :: (.r (.fresh 2 t20.length (pc t20))) :: (.r (.fresh 2 t21.length (pc t21))) :: (.r (.fresh 2 t22.length (pc t22))) :: (.r (.fresh 2 t23.length (pc t23))) :: (.r (.fresh 2 t24.length (pc t24))) :: (.r (.fresh 2 t25.length (pc t25))) :: (.r (.fresh 2 t26.length (pc t26))) :: (.r (.fresh 2 t27.length (pc t27))) :: (.r (.fresh 2 t28.length (pc t28))) :: (.r (.fresh 2 t29.length (pc t29))) :: (.r (.fresh 2 t30.length (pc t30))) :: (.r (.fresh 2 t31.length (pc t31))) :: (.r (.fresh 2 t32.length (pc t32))) :: (.r (.fresh 2 t33.length (pc t33))) :: (.r (.fresh 1 1 [.sl 1 [.sl ds.length (pc ds)]])) :: []) (by kernel_rfl) ⟨n1, rfl, n2, rfl, n3, rfl, n4, n5, n6, n7, n8, n9, n10, n11, n12, n13, n14, n15, rfl, n16, n17, n18, n19, n20, n21, n22, n23, n24, n25, n26, n27, n28, n29, n30, n31, n32, n33, n34, n35, n36, n37, n38, rfl, (by decide), trivial⟩

theorem Try.run37_n (p1 p2 v1 v2 h1 h2 : Int) (n1 : Runs Try.ir 35 [.agg [.int .i64 p1, .int .i64 p2, .int .i64 v1, .int .i64 v2, .int .i64 h1, .int .i64 h2]] (.bool false)) : Runs Try.ir 37 [.agg [.int .i64 p1, .int .i64 p2, .int .i64 v1, .int .i64 v2, .int .i64 h1, .int .i64 h2]] (.tup [.agg [.int .i64 0, .int .i64 0], .agg [.int .i64 0, .int .i64 0]]) :=
  Runs.script (r := .tup [.agg [.int .i64 0, .int .i64 0], .agg [.int .i64 0, .int .i64 0]]) (ps := [Runs Try.ir 35 [.agg [.int .i64 p1, .int .i64 p2, .int .i64 v1, .int .i64 v2, .int .i64 h1, .int .i64 h2]] (.bool false), true = true]) TPA_holds rfl 400 rfl [.r (.bool false), .b true] (by kernel_rfl) ⟨n1, rfl, trivial⟩

theorem Try.run10_1 (p1 p2 v1 v2 h1 h2 : Int) (mi : Bool) (nm : ByteArray) (lv px py ln lo hi up dn mx rs gr co sw kf kt reach : Int) (f1 f2 g1 g2 : Int) (fl af at1 va : Bool) (c3 : (fl) = true)
    (c4 : (af) = true)
    (c5 : (at1) = true)
    (c6 : (va) = true)
    (c7 : (decide (reach < 1)) = true)
    (n1 : Runs Try.ir 19 [] (.bool true))
    (n2 : Runs Try.ir 37 [.agg [.int .i64 p1, .int .i64 p2, .int .i64 v1, .int .i64 v2, .int .i64 h1, .int .i64 h2]] (.tup [.agg [.int .i64 f1, .int .i64 f2], .agg [.int .i64 g1, .int .i64 g2]]))
    (n3 : Runs Try.ir 24 [.agg [.str nm, .int .i64 lv, .int .i64 px, .int .i64 py, .int .i64 ln, .bool mi, .int .i64 lo, .int .i64 hi, .int .i64 up, .int .i64 dn, .int .i64 mx, .int .i64 rs, .int .i64 gr, .int .i64 co, .int .i64 sw]] (.bool fl))
    (n4 : Runs Try.ir 25 [.int .i64 kf] (.bool af))
    (n5 : Runs Try.ir 25 [.int .i64 kt] (.bool at1))
    (n6 : Runs Try.ir 35 [.agg [.int .i64 p1, .int .i64 p2, .int .i64 v1, .int .i64 v2, .int .i64 h1, .int .i64 h2]] (.bool va)) : Runs Try.ir 10 [.agg [.int .i64 p1, .int .i64 p2, .int .i64 v1, .int .i64 v2, .int .i64 h1, .int .i64 h2], .agg [.str nm, .int .i64 lv, .int .i64 px, .int .i64 py, .int .i64 ln, .bool mi, .int .i64 lo, .int .i64 hi, .int .i64 up, .int .i64 dn, .int .i64 mx, .int .i64 rs, .int .i64 gr, .int .i64 co, .int .i64 sw, .int .i64 kf, .int .i64 kt], .int .i64 reach] (.bool true) :=
  Runs.script (r := .bool true) (ps := [Runs Try.ir 19 [] (.bool true), false = false, Runs Try.ir 37 [.agg [.int .i64 p1, .int .i64 p2, .int .i64 v1, .int .i64 v2, .int .i64 h1, .int .i64 h2]] (.tup [.agg [.int .i64 f1, .int .i64 f2], .agg [.int .i64 g1, .int .i64 g2]]), Runs Try.ir 24 [.agg [.str nm, .int .i64 lv, .int .i64 px, .int .i64 py, .int .i64 ln, .bool mi, .int .i64 lo, .int .i64 hi, .int .i64 up, .int .i64 dn, .int .i64 mx, .int .i64 rs, .int .i64 gr, .int .i64 co, .int .i64 sw]] (.bool fl), (!fl) = false, Runs Try.ir 25 [.int .i64 kf] (.bool af), (!af) = false, Runs Try.ir 25 [.int .i64 kt] (.bool at1), (!at1) = false, Runs Try.ir 35 [.agg [.int .i64 p1, .int .i64 p2, .int .i64 v1, .int .i64 v2, .int .i64 h1, .int .i64 h2]] (.bool va), (!va) = false, (decide (reach < 1)) = true, true = true, true = true, true = true, Runs Try.ir 19 [] (.bool true)]) TPA_holds rfl 400 rfl [.r (.bool true), .b false, .r (.tup [.agg [.int .i64 f1, .int .i64 f2], .agg [.int .i64 g1, .int .i64 g2]]), .r (.bool fl), .b false, .r (.bool af), .b false, .r (.bool at1), .b false, .r (.bool va), .b false, .b true, .b true, .b true, .b true, .r (.bool true)] (by kernel_rfl) ⟨n1, rfl, n2, n3, (by rw [c3]; rfl), n4, (by rw [c4]; rfl), n5, (by rw [c5]; rfl), n6, (by rw [c6]; rfl), c7, rfl, rfl, rfl, n1, trivial⟩

theorem Try.run10_2 (p1 p2 v1 v2 h1 h2 : Int) (mi : Bool) (nm : ByteArray) (lv px py ln lo hi up dn mx rs gr co sw kf kt reach : Int) (f1 f2 g1 g2 : Int) (fl af at1 va : Bool) (c3 : (fl) = true)
    (c4 : (af) = true)
    (c5 : (at1) = true)
    (c6 : (va) = true)
    (c7 : (decide (reach < 1)) = false)
    (c8 : (decide (reach > 524288)) = true)
    (n1 : Runs Try.ir 19 [] (.bool true))
    (n2 : Runs Try.ir 37 [.agg [.int .i64 p1, .int .i64 p2, .int .i64 v1, .int .i64 v2, .int .i64 h1, .int .i64 h2]] (.tup [.agg [.int .i64 f1, .int .i64 f2], .agg [.int .i64 g1, .int .i64 g2]]))
    (n3 : Runs Try.ir 24 [.agg [.str nm, .int .i64 lv, .int .i64 px, .int .i64 py, .int .i64 ln, .bool mi, .int .i64 lo, .int .i64 hi, .int .i64 up, .int .i64 dn, .int .i64 mx, .int .i64 rs, .int .i64 gr, .int .i64 co, .int .i64 sw]] (.bool fl))
    (n4 : Runs Try.ir 25 [.int .i64 kf] (.bool af))
    (n5 : Runs Try.ir 25 [.int .i64 kt] (.bool at1))
    (n6 : Runs Try.ir 35 [.agg [.int .i64 p1, .int .i64 p2, .int .i64 v1, .int .i64 v2, .int .i64 h1, .int .i64 h2]] (.bool va)) : Runs Try.ir 10 [.agg [.int .i64 p1, .int .i64 p2, .int .i64 v1, .int .i64 v2, .int .i64 h1, .int .i64 h2], .agg [.str nm, .int .i64 lv, .int .i64 px, .int .i64 py, .int .i64 ln, .bool mi, .int .i64 lo, .int .i64 hi, .int .i64 up, .int .i64 dn, .int .i64 mx, .int .i64 rs, .int .i64 gr, .int .i64 co, .int .i64 sw, .int .i64 kf, .int .i64 kt], .int .i64 reach] (.bool true) :=
  Runs.script (r := .bool true) (ps := [Runs Try.ir 19 [] (.bool true), false = false, Runs Try.ir 37 [.agg [.int .i64 p1, .int .i64 p2, .int .i64 v1, .int .i64 v2, .int .i64 h1, .int .i64 h2]] (.tup [.agg [.int .i64 f1, .int .i64 f2], .agg [.int .i64 g1, .int .i64 g2]]), Runs Try.ir 24 [.agg [.str nm, .int .i64 lv, .int .i64 px, .int .i64 py, .int .i64 ln, .bool mi, .int .i64 lo, .int .i64 hi, .int .i64 up, .int .i64 dn, .int .i64 mx, .int .i64 rs, .int .i64 gr, .int .i64 co, .int .i64 sw]] (.bool fl), (!fl) = false, Runs Try.ir 25 [.int .i64 kf] (.bool af), (!af) = false, Runs Try.ir 25 [.int .i64 kt] (.bool at1), (!at1) = false, Runs Try.ir 35 [.agg [.int .i64 p1, .int .i64 p2, .int .i64 v1, .int .i64 v2, .int .i64 h1, .int .i64 h2]] (.bool va), (!va) = false, (decide (reach < 1)) = false, (decide (reach > 524288)) = true, true = true, true = true, Runs Try.ir 19 [] (.bool true)]) TPA_holds rfl 400 rfl [.r (.bool true), .b false, .r (.tup [.agg [.int .i64 f1, .int .i64 f2], .agg [.int .i64 g1, .int .i64 g2]]), .r (.bool fl), .b false, .r (.bool af), .b false, .r (.bool at1), .b false, .r (.bool va), .b false, .b false, .b true, .b true, .b true, .r (.bool true)] (by kernel_rfl) ⟨n1, rfl, n2, n3, (by rw [c3]; rfl), n4, (by rw [c4]; rfl), n5, (by rw [c5]; rfl), n6, (by rw [c6]; rfl), c7, c8, rfl, rfl, n1, trivial⟩

theorem Try.run10_3 (p1 p2 v1 v2 h1 h2 : Int) (mi : Bool) (nm : ByteArray) (lv px py ln lo hi up dn mx rs gr co sw kf kt reach : Int) (f1 f2 g1 g2 : Int) (fl af at1 va np ne x0 x1 : Bool) (cl : PPP) (c1 : (x0 == x0) = true)
    (c3 : (fl) = true)
    (c4 : (af) = true)
    (c5 : (at1) = true)
    (c6 : (va) = true)
    (c7 : (decide (reach < 1)) = false)
    (c8 : (decide (reach > 524288)) = false)
    (c9 : (np) = true)
    (c10 : (ne) = true)
    (n1 : Runs Try.ir 19 [] (.bool true))
    (n2 : Runs Try.ir 37 [.agg [.int .i64 p1, .int .i64 p2, .int .i64 v1, .int .i64 v2, .int .i64 h1, .int .i64 h2]] (.tup [.agg [.int .i64 f1, .int .i64 f2], .agg [.int .i64 g1, .int .i64 g2]]))
    (n3 : Runs Try.ir 24 [.agg [.str nm, .int .i64 lv, .int .i64 px, .int .i64 py, .int .i64 ln, .bool mi, .int .i64 lo, .int .i64 hi, .int .i64 up, .int .i64 dn, .int .i64 mx, .int .i64 rs, .int .i64 gr, .int .i64 co, .int .i64 sw]] (.bool fl))
    (n4 : Runs Try.ir 25 [.int .i64 kf] (.bool af))
    (n5 : Runs Try.ir 25 [.int .i64 kt] (.bool at1))
    (n6 : Runs Try.ir 35 [.agg [.int .i64 p1, .int .i64 p2, .int .i64 v1, .int .i64 v2, .int .i64 h1, .int .i64 h2]] (.bool va))
    (n7 : Runs Try.ir 28 [.agg [.int .i64 p1, .int .i64 p2]] (.bool np))
    (n8 : Runs Try.ir 28 [.agg [.int .i64 f1, .int .i64 f2]] (.bool ne))
    (n9 : Runs Try.ir 39 [.agg [.int .i64 p1, .int .i64 p2, .int .i64 v1, .int .i64 v2, .int .i64 h1, .int .i64 h2], .agg [.str nm, .int .i64 lv, .int .i64 px, .int .i64 py, .int .i64 ln, .bool mi, .int .i64 lo, .int .i64 hi, .int .i64 up, .int .i64 dn, .int .i64 mx, .int .i64 rs, .int .i64 gr, .int .i64 co, .int .i64 sw], .int .i64 kf, .int .i64 kt, .int .i64 reach] (.fresh 1 cl.length (ppp cl)))
    (n10 : Runs Try.ir 40 [.sl cl.length (ppp cl), .int .i64 0] (.bool x0))
    (n11 : Runs Try.ir 34 [.agg [.int .i64 p1, .int .i64 p2], .agg [.str nm, .int .i64 lv, .int .i64 px, .int .i64 py, .int .i64 ln, .bool mi, .int .i64 lo, .int .i64 hi, .int .i64 up, .int .i64 dn, .int .i64 mx, .int .i64 rs, .int .i64 gr, .int .i64 co, .int .i64 sw], .int .i64 kf, .int .i64 reach] (.bool x0))
    (n12 : Runs Try.ir 40 [.sl cl.length (ppp cl), .int .i64 16] (.bool x1))
    (n13 : Runs Try.ir 34 [.agg [.int .i64 f1, .int .i64 f2], .agg [.str nm, .int .i64 lv, .int .i64 px, .int .i64 py, .int .i64 ln, .bool mi, .int .i64 lo, .int .i64 hi, .int .i64 up, .int .i64 dn, .int .i64 mx, .int .i64 rs, .int .i64 gr, .int .i64 co, .int .i64 sw], .int .i64 kt, .int .i64 reach] (.bool x1)) : Runs Try.ir 10 [.agg [.int .i64 p1, .int .i64 p2, .int .i64 v1, .int .i64 v2, .int .i64 h1, .int .i64 h2], .agg [.str nm, .int .i64 lv, .int .i64 px, .int .i64 py, .int .i64 ln, .bool mi, .int .i64 lo, .int .i64 hi, .int .i64 up, .int .i64 dn, .int .i64 mx, .int .i64 rs, .int .i64 gr, .int .i64 co, .int .i64 sw, .int .i64 kf, .int .i64 kt], .int .i64 reach] (.bool (x1 == x1)) :=
  Runs.script (r := .bool (x1 == x1)) (ps := [Runs Try.ir 19 [] (.bool true), false = false, Runs Try.ir 37 [.agg [.int .i64 p1, .int .i64 p2, .int .i64 v1, .int .i64 v2, .int .i64 h1, .int .i64 h2]] (.tup [.agg [.int .i64 f1, .int .i64 f2], .agg [.int .i64 g1, .int .i64 g2]]), Runs Try.ir 24 [.agg [.str nm, .int .i64 lv, .int .i64 px, .int .i64 py, .int .i64 ln, .bool mi, .int .i64 lo, .int .i64 hi, .int .i64 up, .int .i64 dn, .int .i64 mx, .int .i64 rs, .int .i64 gr, .int .i64 co, .int .i64 sw]] (.bool fl), (!fl) = false, Runs Try.ir 25 [.int .i64 kf] (.bool af), (!af) = false, Runs Try.ir 25 [.int .i64 kt] (.bool at1), (!at1) = false, Runs Try.ir 35 [.agg [.int .i64 p1, .int .i64 p2, .int .i64 v1, .int .i64 v2, .int .i64 h1, .int .i64 h2]] (.bool va), (!va) = false, (decide (reach < 1)) = false, (decide (reach > 524288)) = false, Runs Try.ir 28 [.agg [.int .i64 p1, .int .i64 p2]] (.bool np), (!np) = false, Runs Try.ir 28 [.agg [.int .i64 f1, .int .i64 f2]] (.bool ne), (!ne) = false, Runs Try.ir 39 [.agg [.int .i64 p1, .int .i64 p2, .int .i64 v1, .int .i64 v2, .int .i64 h1, .int .i64 h2], .agg [.str nm, .int .i64 lv, .int .i64 px, .int .i64 py, .int .i64 ln, .bool mi, .int .i64 lo, .int .i64 hi, .int .i64 up, .int .i64 dn, .int .i64 mx, .int .i64 rs, .int .i64 gr, .int .i64 co, .int .i64 sw], .int .i64 kf, .int .i64 kt, .int .i64 reach] (.fresh 1 cl.length (ppp cl)), Runs Try.ir 40 [.sl cl.length (ppp cl), .int .i64 0] (.bool x0), Runs Try.ir 34 [.agg [.int .i64 p1, .int .i64 p2], .agg [.str nm, .int .i64 lv, .int .i64 px, .int .i64 py, .int .i64 ln, .bool mi, .int .i64 lo, .int .i64 hi, .int .i64 up, .int .i64 dn, .int .i64 mx, .int .i64 rs, .int .i64 gr, .int .i64 co, .int .i64 sw], .int .i64 kf, .int .i64 reach] (.bool x0), (x0 == x0) = true, Runs Try.ir 40 [.sl cl.length (ppp cl), .int .i64 16] (.bool x1), Runs Try.ir 34 [.agg [.int .i64 f1, .int .i64 f2], .agg [.str nm, .int .i64 lv, .int .i64 px, .int .i64 py, .int .i64 ln, .bool mi, .int .i64 lo, .int .i64 hi, .int .i64 up, .int .i64 dn, .int .i64 mx, .int .i64 rs, .int .i64 gr, .int .i64 co, .int .i64 sw], .int .i64 kt, .int .i64 reach] (.bool x1)]) TPA_holds rfl 400 rfl [.r (.bool true), .b false, .r (.tup [.agg [.int .i64 f1, .int .i64 f2], .agg [.int .i64 g1, .int .i64 g2]]), .r (.bool fl), .b false, .r (.bool af), .b false, .r (.bool at1), .b false, .r (.bool va), .b false, .b false, .b false, .r (.bool np), .b false, .r (.bool ne), .b false, .r (.fresh 1 cl.length (ppp cl)), .r (.bool x0), .r (.bool x0), .b true, .r (.bool x1), .r (.bool x1)] (by kernel_rfl) ⟨n1, rfl, n2, n3, (by rw [c3]; rfl), n4, (by rw [c4]; rfl), n5, (by rw [c5]; rfl), n6, (by rw [c6]; rfl), c7, c8, n7, (by rw [c9]; rfl), n8, (by rw [c10]; rfl), n9, n10, n11, c1, n12, n13, trivial⟩

theorem Try.run10_4 (p1 p2 v1 v2 h1 h2 : Int) (mi : Bool) (nm : ByteArray) (lv px py ln lo hi up dn mx rs gr co sw kf kt reach : Int) (f1 f2 g1 g2 : Int) (fl af at1 va np ne : Bool) (c3 : (fl) = true)
    (c4 : (af) = true)
    (c5 : (at1) = true)
    (c6 : (va) = true)
    (c7 : (decide (reach < 1)) = false)
    (c8 : (decide (reach > 524288)) = false)
    (c9 : (np) = true)
    (c10 : (ne) = false)
    (n1 : Runs Try.ir 19 [] (.bool true))
    (n2 : Runs Try.ir 37 [.agg [.int .i64 p1, .int .i64 p2, .int .i64 v1, .int .i64 v2, .int .i64 h1, .int .i64 h2]] (.tup [.agg [.int .i64 f1, .int .i64 f2], .agg [.int .i64 g1, .int .i64 g2]]))
    (n3 : Runs Try.ir 24 [.agg [.str nm, .int .i64 lv, .int .i64 px, .int .i64 py, .int .i64 ln, .bool mi, .int .i64 lo, .int .i64 hi, .int .i64 up, .int .i64 dn, .int .i64 mx, .int .i64 rs, .int .i64 gr, .int .i64 co, .int .i64 sw]] (.bool fl))
    (n4 : Runs Try.ir 25 [.int .i64 kf] (.bool af))
    (n5 : Runs Try.ir 25 [.int .i64 kt] (.bool at1))
    (n6 : Runs Try.ir 35 [.agg [.int .i64 p1, .int .i64 p2, .int .i64 v1, .int .i64 v2, .int .i64 h1, .int .i64 h2]] (.bool va))
    (n7 : Runs Try.ir 28 [.agg [.int .i64 p1, .int .i64 p2]] (.bool np))
    (n8 : Runs Try.ir 28 [.agg [.int .i64 f1, .int .i64 f2]] (.bool ne)) : Runs Try.ir 10 [.agg [.int .i64 p1, .int .i64 p2, .int .i64 v1, .int .i64 v2, .int .i64 h1, .int .i64 h2], .agg [.str nm, .int .i64 lv, .int .i64 px, .int .i64 py, .int .i64 ln, .bool mi, .int .i64 lo, .int .i64 hi, .int .i64 up, .int .i64 dn, .int .i64 mx, .int .i64 rs, .int .i64 gr, .int .i64 co, .int .i64 sw, .int .i64 kf, .int .i64 kt], .int .i64 reach] (.bool true) :=
  Runs.script (r := .bool true) (ps := [Runs Try.ir 19 [] (.bool true), false = false, Runs Try.ir 37 [.agg [.int .i64 p1, .int .i64 p2, .int .i64 v1, .int .i64 v2, .int .i64 h1, .int .i64 h2]] (.tup [.agg [.int .i64 f1, .int .i64 f2], .agg [.int .i64 g1, .int .i64 g2]]), Runs Try.ir 24 [.agg [.str nm, .int .i64 lv, .int .i64 px, .int .i64 py, .int .i64 ln, .bool mi, .int .i64 lo, .int .i64 hi, .int .i64 up, .int .i64 dn, .int .i64 mx, .int .i64 rs, .int .i64 gr, .int .i64 co, .int .i64 sw]] (.bool fl), (!fl) = false, Runs Try.ir 25 [.int .i64 kf] (.bool af), (!af) = false, Runs Try.ir 25 [.int .i64 kt] (.bool at1), (!at1) = false, Runs Try.ir 35 [.agg [.int .i64 p1, .int .i64 p2, .int .i64 v1, .int .i64 v2, .int .i64 h1, .int .i64 h2]] (.bool va), (!va) = false, (decide (reach < 1)) = false, (decide (reach > 524288)) = false, Runs Try.ir 28 [.agg [.int .i64 p1, .int .i64 p2]] (.bool np), (!np) = false, Runs Try.ir 28 [.agg [.int .i64 f1, .int .i64 f2]] (.bool ne), (!ne) = true, Runs Try.ir 19 [] (.bool true)]) TPA_holds rfl 400 rfl [.r (.bool true), .b false, .r (.tup [.agg [.int .i64 f1, .int .i64 f2], .agg [.int .i64 g1, .int .i64 g2]]), .r (.bool fl), .b false, .r (.bool af), .b false, .r (.bool at1), .b false, .r (.bool va), .b false, .b false, .b false, .r (.bool np), .b false, .r (.bool ne), .b true, .r (.bool true)] (by kernel_rfl) ⟨n1, rfl, n2, n3, (by rw [c3]; rfl), n4, (by rw [c4]; rfl), n5, (by rw [c5]; rfl), n6, (by rw [c6]; rfl), c7, c8, n7, (by rw [c9]; rfl), n8, (by rw [c10]; rfl), n1, trivial⟩

theorem Try.run10_5 (p1 p2 v1 v2 h1 h2 : Int) (mi : Bool) (nm : ByteArray) (lv px py ln lo hi up dn mx rs gr co sw kf kt reach : Int) (f1 f2 g1 g2 : Int) (fl af at1 va np : Bool) (c3 : (fl) = true)
    (c4 : (af) = true)
    (c5 : (at1) = true)
    (c6 : (va) = true)
    (c7 : (decide (reach < 1)) = false)
    (c8 : (decide (reach > 524288)) = false)
    (c9 : (np) = false)
    (n1 : Runs Try.ir 19 [] (.bool true))
    (n2 : Runs Try.ir 37 [.agg [.int .i64 p1, .int .i64 p2, .int .i64 v1, .int .i64 v2, .int .i64 h1, .int .i64 h2]] (.tup [.agg [.int .i64 f1, .int .i64 f2], .agg [.int .i64 g1, .int .i64 g2]]))
    (n3 : Runs Try.ir 24 [.agg [.str nm, .int .i64 lv, .int .i64 px, .int .i64 py, .int .i64 ln, .bool mi, .int .i64 lo, .int .i64 hi, .int .i64 up, .int .i64 dn, .int .i64 mx, .int .i64 rs, .int .i64 gr, .int .i64 co, .int .i64 sw]] (.bool fl))
    (n4 : Runs Try.ir 25 [.int .i64 kf] (.bool af))
    (n5 : Runs Try.ir 25 [.int .i64 kt] (.bool at1))
    (n6 : Runs Try.ir 35 [.agg [.int .i64 p1, .int .i64 p2, .int .i64 v1, .int .i64 v2, .int .i64 h1, .int .i64 h2]] (.bool va))
    (n7 : Runs Try.ir 28 [.agg [.int .i64 p1, .int .i64 p2]] (.bool np)) : Runs Try.ir 10 [.agg [.int .i64 p1, .int .i64 p2, .int .i64 v1, .int .i64 v2, .int .i64 h1, .int .i64 h2], .agg [.str nm, .int .i64 lv, .int .i64 px, .int .i64 py, .int .i64 ln, .bool mi, .int .i64 lo, .int .i64 hi, .int .i64 up, .int .i64 dn, .int .i64 mx, .int .i64 rs, .int .i64 gr, .int .i64 co, .int .i64 sw, .int .i64 kf, .int .i64 kt], .int .i64 reach] (.bool true) :=
  Runs.script (r := .bool true) (ps := [Runs Try.ir 19 [] (.bool true), false = false, Runs Try.ir 37 [.agg [.int .i64 p1, .int .i64 p2, .int .i64 v1, .int .i64 v2, .int .i64 h1, .int .i64 h2]] (.tup [.agg [.int .i64 f1, .int .i64 f2], .agg [.int .i64 g1, .int .i64 g2]]), Runs Try.ir 24 [.agg [.str nm, .int .i64 lv, .int .i64 px, .int .i64 py, .int .i64 ln, .bool mi, .int .i64 lo, .int .i64 hi, .int .i64 up, .int .i64 dn, .int .i64 mx, .int .i64 rs, .int .i64 gr, .int .i64 co, .int .i64 sw]] (.bool fl), (!fl) = false, Runs Try.ir 25 [.int .i64 kf] (.bool af), (!af) = false, Runs Try.ir 25 [.int .i64 kt] (.bool at1), (!at1) = false, Runs Try.ir 35 [.agg [.int .i64 p1, .int .i64 p2, .int .i64 v1, .int .i64 v2, .int .i64 h1, .int .i64 h2]] (.bool va), (!va) = false, (decide (reach < 1)) = false, (decide (reach > 524288)) = false, Runs Try.ir 28 [.agg [.int .i64 p1, .int .i64 p2]] (.bool np), (!np) = true, true = true, Runs Try.ir 19 [] (.bool true)]) TPA_holds rfl 400 rfl [.r (.bool true), .b false, .r (.tup [.agg [.int .i64 f1, .int .i64 f2], .agg [.int .i64 g1, .int .i64 g2]]), .r (.bool fl), .b false, .r (.bool af), .b false, .r (.bool at1), .b false, .r (.bool va), .b false, .b false, .b false, .r (.bool np), .b true, .b true, .r (.bool true)] (by kernel_rfl) ⟨n1, rfl, n2, n3, (by rw [c3]; rfl), n4, (by rw [c4]; rfl), n5, (by rw [c5]; rfl), n6, (by rw [c6]; rfl), c7, c8, n7, (by rw [c9]; rfl), rfl, n1, trivial⟩

theorem Try.run10_6 (p1 p2 v1 v2 h1 h2 : Int) (mi : Bool) (nm : ByteArray) (lv px py ln lo hi up dn mx rs gr co sw kf kt reach : Int) (f1 f2 g1 g2 : Int) (fl af at1 va : Bool) (c3 : (fl) = true)
    (c4 : (af) = true)
    (c5 : (at1) = true)
    (c6 : (va) = false)
    (n1 : Runs Try.ir 19 [] (.bool true))
    (n2 : Runs Try.ir 37 [.agg [.int .i64 p1, .int .i64 p2, .int .i64 v1, .int .i64 v2, .int .i64 h1, .int .i64 h2]] (.tup [.agg [.int .i64 f1, .int .i64 f2], .agg [.int .i64 g1, .int .i64 g2]]))
    (n3 : Runs Try.ir 24 [.agg [.str nm, .int .i64 lv, .int .i64 px, .int .i64 py, .int .i64 ln, .bool mi, .int .i64 lo, .int .i64 hi, .int .i64 up, .int .i64 dn, .int .i64 mx, .int .i64 rs, .int .i64 gr, .int .i64 co, .int .i64 sw]] (.bool fl))
    (n4 : Runs Try.ir 25 [.int .i64 kf] (.bool af))
    (n5 : Runs Try.ir 25 [.int .i64 kt] (.bool at1))
    (n6 : Runs Try.ir 35 [.agg [.int .i64 p1, .int .i64 p2, .int .i64 v1, .int .i64 v2, .int .i64 h1, .int .i64 h2]] (.bool va)) : Runs Try.ir 10 [.agg [.int .i64 p1, .int .i64 p2, .int .i64 v1, .int .i64 v2, .int .i64 h1, .int .i64 h2], .agg [.str nm, .int .i64 lv, .int .i64 px, .int .i64 py, .int .i64 ln, .bool mi, .int .i64 lo, .int .i64 hi, .int .i64 up, .int .i64 dn, .int .i64 mx, .int .i64 rs, .int .i64 gr, .int .i64 co, .int .i64 sw, .int .i64 kf, .int .i64 kt], .int .i64 reach] (.bool true) :=
  Runs.script (r := .bool true) (ps := [Runs Try.ir 19 [] (.bool true), false = false, Runs Try.ir 37 [.agg [.int .i64 p1, .int .i64 p2, .int .i64 v1, .int .i64 v2, .int .i64 h1, .int .i64 h2]] (.tup [.agg [.int .i64 f1, .int .i64 f2], .agg [.int .i64 g1, .int .i64 g2]]), Runs Try.ir 24 [.agg [.str nm, .int .i64 lv, .int .i64 px, .int .i64 py, .int .i64 ln, .bool mi, .int .i64 lo, .int .i64 hi, .int .i64 up, .int .i64 dn, .int .i64 mx, .int .i64 rs, .int .i64 gr, .int .i64 co, .int .i64 sw]] (.bool fl), (!fl) = false, Runs Try.ir 25 [.int .i64 kf] (.bool af), (!af) = false, Runs Try.ir 25 [.int .i64 kt] (.bool at1), (!at1) = false, Runs Try.ir 35 [.agg [.int .i64 p1, .int .i64 p2, .int .i64 v1, .int .i64 v2, .int .i64 h1, .int .i64 h2]] (.bool va), (!va) = true, true = true, true = true, true = true, true = true, Runs Try.ir 19 [] (.bool true)]) TPA_holds rfl 400 rfl [.r (.bool true), .b false, .r (.tup [.agg [.int .i64 f1, .int .i64 f2], .agg [.int .i64 g1, .int .i64 g2]]), .r (.bool fl), .b false, .r (.bool af), .b false, .r (.bool at1), .b false, .r (.bool va), .b true, .b true, .b true, .b true, .b true, .r (.bool true)] (by kernel_rfl) ⟨n1, rfl, n2, n3, (by rw [c3]; rfl), n4, (by rw [c4]; rfl), n5, (by rw [c5]; rfl), n6, (by rw [c6]; rfl), rfl, rfl, rfl, rfl, n1, trivial⟩

theorem Try.run10_7 (p1 p2 v1 v2 h1 h2 : Int) (mi : Bool) (nm : ByteArray) (lv px py ln lo hi up dn mx rs gr co sw kf kt reach : Int) (f1 f2 g1 g2 : Int) (fl af at1 : Bool) (c3 : (fl) = true)
    (c4 : (af) = true)
    (c5 : (at1) = false)
    (n1 : Runs Try.ir 19 [] (.bool true))
    (n2 : Runs Try.ir 37 [.agg [.int .i64 p1, .int .i64 p2, .int .i64 v1, .int .i64 v2, .int .i64 h1, .int .i64 h2]] (.tup [.agg [.int .i64 f1, .int .i64 f2], .agg [.int .i64 g1, .int .i64 g2]]))
    (n3 : Runs Try.ir 24 [.agg [.str nm, .int .i64 lv, .int .i64 px, .int .i64 py, .int .i64 ln, .bool mi, .int .i64 lo, .int .i64 hi, .int .i64 up, .int .i64 dn, .int .i64 mx, .int .i64 rs, .int .i64 gr, .int .i64 co, .int .i64 sw]] (.bool fl))
    (n4 : Runs Try.ir 25 [.int .i64 kf] (.bool af))
    (n5 : Runs Try.ir 25 [.int .i64 kt] (.bool at1)) : Runs Try.ir 10 [.agg [.int .i64 p1, .int .i64 p2, .int .i64 v1, .int .i64 v2, .int .i64 h1, .int .i64 h2], .agg [.str nm, .int .i64 lv, .int .i64 px, .int .i64 py, .int .i64 ln, .bool mi, .int .i64 lo, .int .i64 hi, .int .i64 up, .int .i64 dn, .int .i64 mx, .int .i64 rs, .int .i64 gr, .int .i64 co, .int .i64 sw, .int .i64 kf, .int .i64 kt], .int .i64 reach] (.bool true) :=
  Runs.script (r := .bool true) (ps := [Runs Try.ir 19 [] (.bool true), false = false, Runs Try.ir 37 [.agg [.int .i64 p1, .int .i64 p2, .int .i64 v1, .int .i64 v2, .int .i64 h1, .int .i64 h2]] (.tup [.agg [.int .i64 f1, .int .i64 f2], .agg [.int .i64 g1, .int .i64 g2]]), Runs Try.ir 24 [.agg [.str nm, .int .i64 lv, .int .i64 px, .int .i64 py, .int .i64 ln, .bool mi, .int .i64 lo, .int .i64 hi, .int .i64 up, .int .i64 dn, .int .i64 mx, .int .i64 rs, .int .i64 gr, .int .i64 co, .int .i64 sw]] (.bool fl), (!fl) = false, Runs Try.ir 25 [.int .i64 kf] (.bool af), (!af) = false, Runs Try.ir 25 [.int .i64 kt] (.bool at1), (!at1) = true, true = true, true = true, true = true, true = true, true = true, Runs Try.ir 19 [] (.bool true)]) TPA_holds rfl 400 rfl [.r (.bool true), .b false, .r (.tup [.agg [.int .i64 f1, .int .i64 f2], .agg [.int .i64 g1, .int .i64 g2]]), .r (.bool fl), .b false, .r (.bool af), .b false, .r (.bool at1), .b true, .b true, .b true, .b true, .b true, .b true, .r (.bool true)] (by kernel_rfl) ⟨n1, rfl, n2, n3, (by rw [c3]; rfl), n4, (by rw [c4]; rfl), n5, (by rw [c5]; rfl), rfl, rfl, rfl, rfl, rfl, n1, trivial⟩

theorem Try.run10_8 (p1 p2 v1 v2 h1 h2 : Int) (mi : Bool) (nm : ByteArray) (lv px py ln lo hi up dn mx rs gr co sw kf kt reach : Int) (f1 f2 g1 g2 : Int) (fl af : Bool) (c3 : (fl) = true)
    (c4 : (af) = false)
    (n1 : Runs Try.ir 19 [] (.bool true))
    (n2 : Runs Try.ir 37 [.agg [.int .i64 p1, .int .i64 p2, .int .i64 v1, .int .i64 v2, .int .i64 h1, .int .i64 h2]] (.tup [.agg [.int .i64 f1, .int .i64 f2], .agg [.int .i64 g1, .int .i64 g2]]))
    (n3 : Runs Try.ir 24 [.agg [.str nm, .int .i64 lv, .int .i64 px, .int .i64 py, .int .i64 ln, .bool mi, .int .i64 lo, .int .i64 hi, .int .i64 up, .int .i64 dn, .int .i64 mx, .int .i64 rs, .int .i64 gr, .int .i64 co, .int .i64 sw]] (.bool fl))
    (n4 : Runs Try.ir 25 [.int .i64 kf] (.bool af)) : Runs Try.ir 10 [.agg [.int .i64 p1, .int .i64 p2, .int .i64 v1, .int .i64 v2, .int .i64 h1, .int .i64 h2], .agg [.str nm, .int .i64 lv, .int .i64 px, .int .i64 py, .int .i64 ln, .bool mi, .int .i64 lo, .int .i64 hi, .int .i64 up, .int .i64 dn, .int .i64 mx, .int .i64 rs, .int .i64 gr, .int .i64 co, .int .i64 sw, .int .i64 kf, .int .i64 kt], .int .i64 reach] (.bool true) :=
  Runs.script (r := .bool true) (ps := [Runs Try.ir 19 [] (.bool true), false = false, Runs Try.ir 37 [.agg [.int .i64 p1, .int .i64 p2, .int .i64 v1, .int .i64 v2, .int .i64 h1, .int .i64 h2]] (.tup [.agg [.int .i64 f1, .int .i64 f2], .agg [.int .i64 g1, .int .i64 g2]]), Runs Try.ir 24 [.agg [.str nm, .int .i64 lv, .int .i64 px, .int .i64 py, .int .i64 ln, .bool mi, .int .i64 lo, .int .i64 hi, .int .i64 up, .int .i64 dn, .int .i64 mx, .int .i64 rs, .int .i64 gr, .int .i64 co, .int .i64 sw]] (.bool fl), (!fl) = false, Runs Try.ir 25 [.int .i64 kf] (.bool af), (!af) = true, true = true, true = true, true = true, true = true, true = true, true = true, Runs Try.ir 19 [] (.bool true)]) TPA_holds rfl 400 rfl [.r (.bool true), .b false, .r (.tup [.agg [.int .i64 f1, .int .i64 f2], .agg [.int .i64 g1, .int .i64 g2]]), .r (.bool fl), .b false, .r (.bool af), .b true, .b true, .b true, .b true, .b true, .b true, .b true, .r (.bool true)] (by kernel_rfl) ⟨n1, rfl, n2, n3, (by rw [c3]; rfl), n4, (by rw [c4]; rfl), rfl, rfl, rfl, rfl, rfl, rfl, n1, trivial⟩

theorem Try.run10_9 (p1 p2 v1 v2 h1 h2 : Int) (mi : Bool) (nm : ByteArray) (lv px py ln lo hi up dn mx rs gr co sw kf kt reach : Int) (f1 f2 g1 g2 : Int) (fl : Bool) (c3 : (fl) = false)
    (n1 : Runs Try.ir 19 [] (.bool true))
    (n2 : Runs Try.ir 37 [.agg [.int .i64 p1, .int .i64 p2, .int .i64 v1, .int .i64 v2, .int .i64 h1, .int .i64 h2]] (.tup [.agg [.int .i64 f1, .int .i64 f2], .agg [.int .i64 g1, .int .i64 g2]]))
    (n3 : Runs Try.ir 24 [.agg [.str nm, .int .i64 lv, .int .i64 px, .int .i64 py, .int .i64 ln, .bool mi, .int .i64 lo, .int .i64 hi, .int .i64 up, .int .i64 dn, .int .i64 mx, .int .i64 rs, .int .i64 gr, .int .i64 co, .int .i64 sw]] (.bool fl)) : Runs Try.ir 10 [.agg [.int .i64 p1, .int .i64 p2, .int .i64 v1, .int .i64 v2, .int .i64 h1, .int .i64 h2], .agg [.str nm, .int .i64 lv, .int .i64 px, .int .i64 py, .int .i64 ln, .bool mi, .int .i64 lo, .int .i64 hi, .int .i64 up, .int .i64 dn, .int .i64 mx, .int .i64 rs, .int .i64 gr, .int .i64 co, .int .i64 sw, .int .i64 kf, .int .i64 kt], .int .i64 reach] (.bool true) :=
  Runs.script (r := .bool true) (ps := [Runs Try.ir 19 [] (.bool true), false = false, Runs Try.ir 37 [.agg [.int .i64 p1, .int .i64 p2, .int .i64 v1, .int .i64 v2, .int .i64 h1, .int .i64 h2]] (.tup [.agg [.int .i64 f1, .int .i64 f2], .agg [.int .i64 g1, .int .i64 g2]]), Runs Try.ir 24 [.agg [.str nm, .int .i64 lv, .int .i64 px, .int .i64 py, .int .i64 ln, .bool mi, .int .i64 lo, .int .i64 hi, .int .i64 up, .int .i64 dn, .int .i64 mx, .int .i64 rs, .int .i64 gr, .int .i64 co, .int .i64 sw]] (.bool fl), (!fl) = true, true = true, true = true, true = true, true = true, true = true, true = true, true = true, Runs Try.ir 19 [] (.bool true)]) TPA_holds rfl 400 rfl [.r (.bool true), .b false, .r (.tup [.agg [.int .i64 f1, .int .i64 f2], .agg [.int .i64 g1, .int .i64 g2]]), .r (.bool fl), .b true, .b true, .b true, .b true, .b true, .b true, .b true, .b true, .r (.bool true)] (by kernel_rfl) ⟨n1, rfl, n2, n3, (by rw [c3]; rfl), rfl, rfl, rfl, rfl, rfl, rfl, rfl, n1, trivial⟩


theorem peval1 (c x : Int) : peval [c] x = c := by simp [peval]
def MildL (l : PPP) : Prop := (∀ ps ∈ l, ps.length ≤ 1048576 ∧ ∀ p ∈ ps, Mild p) ∧ l.length ≤ 1048576
theorem negative_P {xs : List Rn} {f : Int → Int} {n K : Nat} (hx : IsP xs f n K) (hK : K ≤ 1048576) (hn : n ≤ 1048576) : ∃ ts, IsP ts (fun x => -f x) n K ∧ Runs Try.ir 74 [.sl xs.length (pc xs)] (.fresh 2 ts.length (pc ts)) := by
  have h1 := hx.len
  refine ⟨(pneg (vals xs)).map cn, IsP.of_cn (by rw [pneg_len, vals_length]; exact h1) (fits_mem_pneg (fits_vals hx.good)) (fun x => by rw [peval_pneg, hx.ev]), ?_⟩
  rw [List.length_map, pneg_len, vals_length]
  exact anegative_run (fun r h => (hx.good r h).mono hK) (by omega)
theorem ints2_P {a b : Int} (ha : -9223372036854775808 ≤ a ∧ a ≤ 9223372036854775807) (hb : -9223372036854775808 ≤ b ∧ b ≤ 9223372036854775807) : ∃ ts, IsP ts (peval [a, b]) 2 2 ∧ Runs Try.ir 73 [.sl 2 [.int .i64 a, .int .i64 b]] (.fresh 2 ts.length (pc ts)) :=
  ints_P (xs := [a, b]) (fun x hx => by simp only [List.mem_cons, List.not_mem_nil, or_false] at hx; rcases hx with rfl | rfl <;> omega) (by simp)
theorem inR_yes {lo hi x : Int} (h : inR lo hi x = true) : lo ≤ x ∧ x ≤ hi := by simpa [inR] using h
theorem inR_mk {lo hi x : Int} (h : lo ≤ x ∧ x ≤ hi) : inR lo hi x = true := by simpa [inR] using h
theorem in09_eq (n a b : Int) : in09 n a b = inR a b n := by
  unfold in09 inR
  rw [Bool.eq_iff_iff]
  simp only [Bool.and_eq_true, decide_eq_true_eq]
  repeat' split
  all_goals (simp_all <;> omega)
theorem near09_eq (x y : Int) : near09 x y 1048576 = (inR (-1048576) 1048576 x && inR (-1048576) 1048576 y) := by
  unfold near09
  rw [in09_eq, in09_eq, w64 (by omega) (by omega)]
  cases h : inR (-1048576) 1048576 x <;> simp [h]
theorem flips_eq (px py ln lo hi up dn mx : Int) : flips px py ln lo hi up dn mx = permB px py ln lo hi up dn mx := by
  unfold flips permB
  simp only [near09_eq, in09_eq]
  repeat' split
  all_goals (simp_all <;> omega)
theorem angleB_yes {k : Int} (h : angleB k = true) : -256 ≤ k ∧ k ≤ 256 := by
  unfold angleB at h
  split at h
  · rename_i g; simp only [decide_eq_true_eq] at g h; omega
  · cases h
theorem near13_yes {x y : Int} (h : near13 x y = true) : In 2097152 x y := by
  unfold near13 at h
  unfold In
  repeat (split at h; rotate_left; · simp at h)
  simp only [decide_eq_true_eq] at *
  omega
theorem permB_in {px py ln lo hi up dn mx : Int} (h : permB px py ln lo hi up dn mx = true) : In 1048576 px py ∧ 1 ≤ ln ∧ ln ≤ 262144 := by
  unfold permB at h
  simp only [Bool.and_eq_true] at h
  have h1 := inR_yes h.1.1.1.1.1.1.1.1.1
  have h2 := inR_yes h.1.1.1.1.1.1.1.1.2
  have h3 := inR_yes h.1.1.1.1.1.1.1.2
  unfold In
  omega
theorem sq256 {k : Int} (h : -256 ≤ k ∧ k ≤ 256) : 0 ≤ k * k ∧ k * k ≤ 65536 := ⟨sqnn k, sqle (n := 256) h⟩
theorem turned1 {k : Int} (mi : Bool) (hk : -256 ≤ k ∧ k ≤ 256) : turnedI mi k 256 = ((if mi then -(65536 - k * k) else 65536 - k * k), 512 * k, 65536 + k * k) := by
  have := sq256 hk
  unfold turnedI
  have e1 : IntKind.i64.wrap (256 * 256) = 65536 := rfl
  have e2 : IntKind.i64.wrap (2 * 256) = 512 := rfl
  cases mi
  · simp only [e1, e2, w64 (n := k * k) (by omega) (by omega), w64 (n := 65536 - k * k) (by omega) (by omega), w64 (n := 512 * k) (by omega) (by omega), w64 (n := 65536 + k * k) (by omega) (by omega)]
    rfl
  · simp only [e1, e2, w64 (n := k * k) (by omega) (by omega), w64 (n := 65536 - k * k) (by omega) (by omega), w64 (n := 512 * k) (by omega) (by omega), w64 (n := 65536 + k * k) (by omega) (by omega), w64 (n := 0 - (65536 - k * k)) (by omega) (by omega)]
    rw [Int.zero_sub]
    rfl
/-- Too near to the blade, by conditions. -/
def bladeB (x y c s n L R : Int) : Bool := decide (x * x + y * y < R * R) || (decide (0 < n * ((R * R - L * L) - (x * x + y * y)) + 2 * L * (x * c + y * s)) ||
      (decide (0 < x * c + y * s) && (decide (0 < L * n - (x * c + y * s)) && (decide (0 < R * n - (c * y - s * x)) && decide (0 < R * n + (c * y - s * x))))))
def dirX (mi : Bool) (k : Int) : Int := if mi then -(65536 - k * k) else 65536 - k * k
theorem inside_blade {qx qy px py ln lo hi up dn mx k R : Int} (mi : Bool) (hp : permB px py ln lo hi up dn mx = true) (hk : -256 ≤ k ∧ k ≤ 256) (hR : 1 ≤ R ∧ R ≤ 524288) (hq : In 2097152 qx qy) :
    insideB qx qy px py ln mi lo hi up dn mx k R = bladeB (qx - px) (qy - py) (dirX mi k) (512 * k) (65536 + k * k) ln R := by
  have hb := permB_in hp
  have q := sq256 hk
  unfold insideB
  have h1 : In 3145728 (qx - px) (qy - py) := In.sub hq hb.1 (by decide)
  have hq' := hq
  unfold In at hq'
  rw [hp, inR_mk hk, inR_mk hR, inR_mk (lo := -2097152) (hi := 2097152) (x := qx) (by omega), inR_mk (lo := -2097152) (hi := 2097152) (x := qy) (by omega), turned1 mi hk, subV_eq (hq.mono (by decide)) (hb.1.mono (by decide))]
  have hcs : dirX mi k * dirX mi k + 512 * k * (512 * k) = (65536 + k * k) * (65536 + k * k) := by unfold dirX; split <;> grind
  unfold bladeB
  rw [← flip_core hcs (by omega) hb.2.1 hR.1]
  have hc : -65536 ≤ dirX mi k ∧ dirX mi k ≤ 65536 := by unfold dirX; split <;> omega
  rw [show (if mi = true then -(65536 - k * k) else 65536 - k * k) = dirX mi k from rfl]
  generalize dirX mi k = c at *
  generalize qx - px = a at *
  generalize qy - py = b at *
  have hn : 65536 ≤ 65536 + k * k ∧ 65536 + k * k ≤ 131072 := by omega
  generalize 65536 + k * k = n at *
  dsimp only [Bool.and_self]
  have hin2 : In 1073741824 c (512 * k) := by unfold In; omega
  have hi1 := h1.mono (m := 1073741824) (by decide)
  rw [dotI_eq hi1 hin2, dotI_eq hi1 hi1, crossI_eq hin2 hi1]
  unfold In at h1
  have b1 := mul_bd (x := c) (y := b) (p := 65536) (q := 3145728) (by omega) (by omega) (by omega) (by omega)
  have b2 := mul_bd (x := 512 * k) (y := a) (p := 131072) (q := 3145728) (by omega) (by omega) (by omega) (by omega)
  have b3 := mul_bd (x := a) (y := c) (p := 3145728) (q := 65536) (by omega) (by omega) (by omega) (by omega)
  have b4 := mul_bd (x := b) (y := 512 * k) (p := 3145728) (q := 131072) (by omega) (by omega) (by omega) (by omega)
  have b5 := mul_bd (x := a) (y := a) (p := 3145728) (q := 3145728) (by omega) (by omega) (by omega) (by omega)
  have b6 := mul_bd (x := b) (y := b) (p := 3145728) (q := 3145728) (by omega) (by omega) (by omega) (by omega)
  have b7 := mul_bd (x := R) (y := R) (p := 524288) (q := 524288) (by omega) (by omega) (by omega) (by omega)
  have b8 := mul_bd (x := ln) (y := ln) (p := 262144) (q := 262144) (by omega) (by omega) (by omega) (by omega)
  have b9 := mul_bd (x := ln) (y := n) (p := 262144) (q := 131072) (by omega) (by omega) (by omega) (by omega)
  have b10 := mul_bd (x := R) (y := n) (p := 524288) (q := 131072) (by omega) (by omega) (by omega) (by omega)
  have b11 := mul_bd (x := n) (y := a * a + b * b + ln * ln - R * R) (p := 131072) (q := 20134806683648) (by omega) (by omega) (by omega) (by omega)
  have b12 := mul_bd (x := 2 * ln) (y := a * c + b * (512 * k)) (p := 524288) (q := 618475290624) (by omega) (by omega) (by omega) (by omega)
  rw [w64 (n := R * R) (by omega) (by omega), w64 (n := ln * ln) (by omega) (by omega), w64 (n := ln * n) (by omega) (by omega), w64 (n := R * n) (by omega) (by omega), w64 (n := a * a + b * b + ln * ln) (by omega) (by omega),
    w64 (n := a * a + b * b + ln * ln - R * R) (by omega) (by omega), w64 (n := n * (a * a + b * b + ln * ln - R * R)) (by omega) (by omega), w64 (n := 2 * ln) (by omega) (by omega), w64 (n := 2 * ln * (a * c + b * (512 * k))) (by omega) (by omega), w64 (n := 0 - (c * b - 512 * k * a)) (by omega) (by omega)]
  have emax : (if 0 - (c * b - 512 * k * a) > c * b - 512 * k * a then 0 - (c * b - 512 * k * a) else c * b - 512 * k * a) = max (c * b - 512 * k * a) (-(c * b - 512 * k * a)) := by split <;> omega
  rw [emax]
  simp only [Bool.and_self]
  by_cases g1 : a * c + b * (512 * k) ≤ 0
  · rw [if_pos g1, decide_eq_true g1]
  · rw [if_neg g1, decide_eq_false g1]
    by_cases g2 : a * c + b * (512 * k) ≥ ln * n
    · rw [if_pos g2, decide_eq_true g2]
    · rw [if_neg g2, decide_eq_false g2]


theorem small_i64 {n m : Int} (h : -m ≤ n ∧ n ≤ m) (hm : m ≤ 9223372036854775807) : -9223372036854775808 ≤ n ∧ n ≤ 9223372036854775807 := by omega


theorem flip_at_true {p1 p2 v1 v2 h1 h2 : Int} {nm : ByteArray} {lv px py ln lo hi up dn mx rs gr co sw kf kt R : Int} (a : In 8388608 p1 p2) (b : In 262144 v1 v2) (c : In 4096 h1 h2)
    (hp : permB px py ln lo hi up dn mx = true) (hf : -256 ≤ kf ∧ kf ≤ 256) (ht : -256 ≤ kt ∧ kt ≤ 256) (hR : 1 ≤ R ∧ R ≤ 524288) :
    ∃ dl : PPP, MildL dl ∧ Runs Try.ir 39 [.agg [.int .i64 p1, .int .i64 p2, .int .i64 v1, .int .i64 v2, .int .i64 h1, .int .i64 h2], .agg [.str nm, .int .i64 lv, .int .i64 px, .int .i64 py, .int .i64 ln, .bool true, .int .i64 lo, .int .i64 hi, .int .i64 up, .int .i64 dn, .int .i64 mx, .int .i64 rs, .int .i64 gr, .int .i64 co, .int .i64 sw], .int .i64 kf, .int .i64 kt, .int .i64 R] (.fresh 1 dl.length (ppp dl)) ∧
      ∀ x, atB dl (16 * x) = bladeB (peval [p1, v1, h1] x - px) (peval [p2, v2, h2] x - py) (dirX true (peval [kf, kt - kf] x)) (512 * peval [kf, kt - kf] x) (65536 + peval [kf, kt - kf] x * peval [kf, kt - kf] x) ln R := by
  have hb := permB_in hp
  obtain ⟨ds, i1, _, r1⟩ := Disc_P a b c hb.1 (R := R) (by omega)
  obtain ⟨fx, fy, j1, j2, r3⟩ := polys_P a b c
  have hv : Runs Try.ir 61 [.agg [.int .i64 p1, .int .i64 p2, .int .i64 v1, .int .i64 v2, .int .i64 h1, .int .i64 h2]] (.bool true) := by
    have := Try.run61 p1 p2 v1 v2 h1 h2
    rwa [validF_of a b c] at this
  have hperm : Runs Try.ir 50 [.agg [.str nm, .int .i64 lv, .int .i64 px, .int .i64 py, .int .i64 ln, .bool true, .int .i64 lo, .int .i64 hi, .int .i64 up, .int .i64 dn, .int .i64 mx, .int .i64 rs, .int .i64 gr, .int .i64 co, .int .i64 sw], .sl 2 [.int .i64 kf, .int .i64 kt]] (.bool true) := by
    have h := TFIns_holds 50 [.agg [.str nm, .int .i64 lv, .int .i64 px, .int .i64 py, .int .i64 ln, .bool true, .int .i64 lo, .int .i64 hi, .int .i64 up, .int .i64 dn, .int .i64 mx, .int .i64 rs, .int .i64 gr, .int .i64 co, .int .i64 sw], .sl 2 [.int .i64 kf, .int .i64 kt]] (.bool (permB px py ln lo hi up dn mx && inR (-256) 256 kf && inR (-256) 256 kt)) _ rfl trivial
    rwa [hp, inR_mk hf, inR_mk ht] at h
  have hin : Runs Try.ir 51 [.int .i64 1, .int .i64 524288, .sl 1 [.int .i64 R]] (.bool true) := by
    have h := TFIns_holds 51 [.int .i64 1, .int .i64 524288, .sl 1 [.int .i64 R]] (.bool (inR 1 524288 R)) _ rfl trivial
    rwa [inR_mk hR] at h
  have hpp := hb.1
  unfold In at hpp
  have b7 := mul_bd (x := R) (y := R) (p := 524288) (q := 524288) (by omega) (by omega) (by omega) (by omega)
  have b8 := mul_bd (x := ln) (y := ln) (p := 262144) (q := 262144) (by omega) (by omega) (by omega) (by omega)
  have w1 : IntKind.i64.wrap (kt - kf) = kt - kf := w64 (by omega) (by omega)
  have w2 : IntKind.i64.wrap (IntKind.i64.wrap (R * R) - IntKind.i64.wrap (ln * ln)) = R * R - ln * ln := by rw [w64 (n := R * R) (by omega) (by omega), w64 (n := ln * ln) (by omega) (by omega), w64 (by omega) (by omega)]
  have w3 : IntKind.i64.wrap (2 * ln) = 2 * ln := w64 (by omega) (by omega)
  obtain ⟨px1, k1', s1⟩ := ints1_P (a := px) (by omega)
  obtain ⟨py1, k2', s2⟩ := ints1_P (a := py) (by omega)
  obtain ⟨xs, l1, u1⟩ := minus_P j1 k1' (by decide) (by decide)
  obtain ⟨ys, l2', u2⟩ := minus_P j2 k2' (by decide) (by decide)
  obtain ⟨k1, m1, s3⟩ := ints2_P (a := kf) (b := kt - kf) (by omega) (by omega)
  obtain ⟨kk, m2, s4⟩ := times_P m1 m1 (by decide) (by decide)
  obtain ⟨aa, m3, s5⟩ := ints1_P (a := 65536) (by omega)
  obtain ⟨dx0, l4, u4⟩ := minus_P m3 m2 (by decide) (by decide)
  obtain ⟨w5, m5, s7⟩ := ints1_P (a := 512) (by omega)
  obtain ⟨dy, m6, s8⟩ := times_P m5 m1 (by decide) (by decide)
  obtain ⟨nn, m7, s9⟩ := plus_P m3 m2 (by decide) (by decide)
  obtain ⟨dx, l5, u5⟩ := negative_P l4 (by decide) (by decide)
  obtain ⟨xx, n1, x1⟩ := times_P l1 l1 (by decide) (by decide)
  obtain ⟨yy, n2, x2⟩ := times_P l2' l2' (by decide) (by decide)
  obtain ⟨sq, n3, x3⟩ := plus_P n1 n2 (by decide) (by decide)
  obtain ⟨xd, n4, x4⟩ := times_P l1 l5 (by decide) (by decide)
  obtain ⟨yd, n5, x5⟩ := times_P l2' m6 (by decide) (by decide)
  obtain ⟨al, n6, x6⟩ := plus_P n4 n5 (by decide) (by decide)
  obtain ⟨dy1, n7, x7⟩ := times_P l5 l2' (by decide) (by decide)
  obtain ⟨dy2, n8, x8⟩ := times_P m6 l1 (by decide) (by decide)
  obtain ⟨ac, n9, x9⟩ := minus_P n7 n8 (by decide) (by decide)
  obtain ⟨rl, o1, y1⟩ := ints1_P (a := R * R - ln * ln) (by omega)
  obtain ⟨rest, o2, y2⟩ := minus_P o1 n3 (by decide) (by decide)
  obtain ⟨tp, o3, y3⟩ := times_P m7 o2 (by decide) (by decide)
  obtain ⟨l2, o4, y4⟩ := ints1_P (a := 2 * ln) (by omega)
  obtain ⟨la1, o5, y5⟩ := times_P o4 n6 (by decide) (by decide)
  obtain ⟨tip, o6, y6⟩ := plus_P o3 o5 (by decide) (by decide)
  obtain ⟨rr, o7, y7⟩ := ints1_P (a := R) (by omega)
  obtain ⟨far, o8, y8⟩ := times_P o7 m7 (by decide) (by decide)
  obtain ⟨lc, o9, y9⟩ := ints1_P (a := ln) (by omega)
  obtain ⟨ln1, q1, z1⟩ := times_P o9 m7 (by decide) (by decide)
  obtain ⟨f2, q2, z2⟩ := minus_P q1 n6 (by decide) (by decide)
  obtain ⟨f3, q3, z3⟩ := minus_P o8 n9 (by decide) (by decide)
  obtain ⟨f4, q4, z4⟩ := plus_P o8 n9 (by decide) (by decide)
  refine ⟨[[ds], [tip], [al, f2, f3, f4]], ⟨fun ps hps => ?_, by simp⟩, ?_, fun x => ?_⟩
  · simp only [List.mem_cons, List.not_mem_nil, or_false] at hps
    rcases hps with rfl | rfl | rfl
    · refine ⟨by simp, fun p hp => ?_⟩
      rw [List.mem_singleton.1 hp]; exact i1.mild (by decide) (by decide)
    · refine ⟨by simp, fun p hp => ?_⟩
      rw [List.mem_singleton.1 hp]; exact o6.mild (by decide) (by decide)
    · refine ⟨by simp, fun p hp => ?_⟩
      simp only [List.mem_cons, List.not_mem_nil, or_false] at hp
      rcases hp with rfl | rfl | rfl | rfl
      · exact n6.mild (by decide) (by decide)
      · exact q2.mild (by decide) (by decide)
      · exact q3.mild (by decide) (by decide)
      · exact q4.mild (by decide) (by decide)
  · exact Try.run39_true p1 p2 v1 v2 h1 h2 nm lv px py ln lo hi up dn mx rs gr co sw kf kt R fx fy ds px1 xs py1 ys k1 kk aa dx0 w5 dy nn dx xx yy sq xd yd al dy1 dy2 ac rl rest tp l2 la1 tip rr far lc ln1 f2 f3 f4 hperm hv hin r3 s1 u1 s2 u2 (by rw [w1]; exact s3) s4 s5 u4 s7 s8 s9 u5 x1 x2 x3 x4 x5 x6 x7 x8 x9 (by rw [w2]; exact y1) y2 y3 (by rw [w3]; exact y4) y5 y6 y7 y8 y9 z1 z2 z3 z4 r1
  · simp only [atB, List.any_cons, List.any_nil, List.all_cons, List.all_nil, Bool.and_true, Bool.or_false, posAt_P i1, posAt_P o6, posAt_P n6, posAt_P q2, posAt_P q3, posAt_P q4, peval1, bladeB, dirX, if_true]
    congr 1
    rw [decide_eq_decide]
    omega


theorem flip_at_false {p1 p2 v1 v2 h1 h2 : Int} {nm : ByteArray} {lv px py ln lo hi up dn mx rs gr co sw kf kt R : Int} (a : In 8388608 p1 p2) (b : In 262144 v1 v2) (c : In 4096 h1 h2)
    (hp : permB px py ln lo hi up dn mx = true) (hf : -256 ≤ kf ∧ kf ≤ 256) (ht : -256 ≤ kt ∧ kt ≤ 256) (hR : 1 ≤ R ∧ R ≤ 524288) :
    ∃ dl : PPP, MildL dl ∧ Runs Try.ir 39 [.agg [.int .i64 p1, .int .i64 p2, .int .i64 v1, .int .i64 v2, .int .i64 h1, .int .i64 h2], .agg [.str nm, .int .i64 lv, .int .i64 px, .int .i64 py, .int .i64 ln, .bool false, .int .i64 lo, .int .i64 hi, .int .i64 up, .int .i64 dn, .int .i64 mx, .int .i64 rs, .int .i64 gr, .int .i64 co, .int .i64 sw], .int .i64 kf, .int .i64 kt, .int .i64 R] (.fresh 1 dl.length (ppp dl)) ∧
      ∀ x, atB dl (16 * x) = bladeB (peval [p1, v1, h1] x - px) (peval [p2, v2, h2] x - py) (dirX false (peval [kf, kt - kf] x)) (512 * peval [kf, kt - kf] x) (65536 + peval [kf, kt - kf] x * peval [kf, kt - kf] x) ln R := by
  have hb := permB_in hp
  obtain ⟨ds, i1, _, r1⟩ := Disc_P a b c hb.1 (R := R) (by omega)
  obtain ⟨fx, fy, j1, j2, r3⟩ := polys_P a b c
  have hv : Runs Try.ir 61 [.agg [.int .i64 p1, .int .i64 p2, .int .i64 v1, .int .i64 v2, .int .i64 h1, .int .i64 h2]] (.bool true) := by
    have := Try.run61 p1 p2 v1 v2 h1 h2
    rwa [validF_of a b c] at this
  have hperm : Runs Try.ir 50 [.agg [.str nm, .int .i64 lv, .int .i64 px, .int .i64 py, .int .i64 ln, .bool false, .int .i64 lo, .int .i64 hi, .int .i64 up, .int .i64 dn, .int .i64 mx, .int .i64 rs, .int .i64 gr, .int .i64 co, .int .i64 sw], .sl 2 [.int .i64 kf, .int .i64 kt]] (.bool true) := by
    have h := TFIns_holds 50 [.agg [.str nm, .int .i64 lv, .int .i64 px, .int .i64 py, .int .i64 ln, .bool false, .int .i64 lo, .int .i64 hi, .int .i64 up, .int .i64 dn, .int .i64 mx, .int .i64 rs, .int .i64 gr, .int .i64 co, .int .i64 sw], .sl 2 [.int .i64 kf, .int .i64 kt]] (.bool (permB px py ln lo hi up dn mx && inR (-256) 256 kf && inR (-256) 256 kt)) _ rfl trivial
    rwa [hp, inR_mk hf, inR_mk ht] at h
  have hin : Runs Try.ir 51 [.int .i64 1, .int .i64 524288, .sl 1 [.int .i64 R]] (.bool true) := by
    have h := TFIns_holds 51 [.int .i64 1, .int .i64 524288, .sl 1 [.int .i64 R]] (.bool (inR 1 524288 R)) _ rfl trivial
    rwa [inR_mk hR] at h
  have hpp := hb.1
  unfold In at hpp
  have b7 := mul_bd (x := R) (y := R) (p := 524288) (q := 524288) (by omega) (by omega) (by omega) (by omega)
  have b8 := mul_bd (x := ln) (y := ln) (p := 262144) (q := 262144) (by omega) (by omega) (by omega) (by omega)
  have w1 : IntKind.i64.wrap (kt - kf) = kt - kf := w64 (by omega) (by omega)
  have w2 : IntKind.i64.wrap (IntKind.i64.wrap (R * R) - IntKind.i64.wrap (ln * ln)) = R * R - ln * ln := by rw [w64 (n := R * R) (by omega) (by omega), w64 (n := ln * ln) (by omega) (by omega), w64 (by omega) (by omega)]
  have w3 : IntKind.i64.wrap (2 * ln) = 2 * ln := w64 (by omega) (by omega)
  obtain ⟨px1, k1', s1⟩ := ints1_P (a := px) (by omega)
  obtain ⟨py1, k2', s2⟩ := ints1_P (a := py) (by omega)
  obtain ⟨xs, l1, u1⟩ := minus_P j1 k1' (by decide) (by decide)
  obtain ⟨ys, l2', u2⟩ := minus_P j2 k2' (by decide) (by decide)
  obtain ⟨k1, m1, s3⟩ := ints2_P (a := kf) (b := kt - kf) (by omega) (by omega)
  obtain ⟨kk, m2, s4⟩ := times_P m1 m1 (by decide) (by decide)
  obtain ⟨aa, m3, s5⟩ := ints1_P (a := 65536) (by omega)
  obtain ⟨dx0, l4, u4⟩ := minus_P m3 m2 (by decide) (by decide)
  obtain ⟨w5, m5, s7⟩ := ints1_P (a := 512) (by omega)
  obtain ⟨dy, m6, s8⟩ := times_P m5 m1 (by decide) (by decide)
  obtain ⟨nn, m7, s9⟩ := plus_P m3 m2 (by decide) (by decide)
  obtain ⟨xx, n1, x1⟩ := times_P l1 l1 (by decide) (by decide)
  obtain ⟨yy, n2, x2⟩ := times_P l2' l2' (by decide) (by decide)
  obtain ⟨sq, n3, x3⟩ := plus_P n1 n2 (by decide) (by decide)
  obtain ⟨xd, n4, x4⟩ := times_P l1 l4 (by decide) (by decide)
  obtain ⟨yd, n5, x5⟩ := times_P l2' m6 (by decide) (by decide)
  obtain ⟨al, n6, x6⟩ := plus_P n4 n5 (by decide) (by decide)
  obtain ⟨dy1, n7, x7⟩ := times_P l4 l2' (by decide) (by decide)
  obtain ⟨dy2, n8, x8⟩ := times_P m6 l1 (by decide) (by decide)
  obtain ⟨ac, n9, x9⟩ := minus_P n7 n8 (by decide) (by decide)
  obtain ⟨rl, o1, y1⟩ := ints1_P (a := R * R - ln * ln) (by omega)
  obtain ⟨rest, o2, y2⟩ := minus_P o1 n3 (by decide) (by decide)
  obtain ⟨tp, o3, y3⟩ := times_P m7 o2 (by decide) (by decide)
  obtain ⟨l2, o4, y4⟩ := ints1_P (a := 2 * ln) (by omega)
  obtain ⟨la1, o5, y5⟩ := times_P o4 n6 (by decide) (by decide)
  obtain ⟨tip, o6, y6⟩ := plus_P o3 o5 (by decide) (by decide)
  obtain ⟨rr, o7, y7⟩ := ints1_P (a := R) (by omega)
  obtain ⟨far, o8, y8⟩ := times_P o7 m7 (by decide) (by decide)
  obtain ⟨lc, o9, y9⟩ := ints1_P (a := ln) (by omega)
  obtain ⟨ln1, q1, z1⟩ := times_P o9 m7 (by decide) (by decide)
  obtain ⟨f2, q2, z2⟩ := minus_P q1 n6 (by decide) (by decide)
  obtain ⟨f3, q3, z3⟩ := minus_P o8 n9 (by decide) (by decide)
  obtain ⟨f4, q4, z4⟩ := plus_P o8 n9 (by decide) (by decide)
  refine ⟨[[ds], [tip], [al, f2, f3, f4]], ⟨fun ps hps => ?_, by simp⟩, ?_, fun x => ?_⟩
  · simp only [List.mem_cons, List.not_mem_nil, or_false] at hps
    rcases hps with rfl | rfl | rfl
    · refine ⟨by simp, fun p hp => ?_⟩
      rw [List.mem_singleton.1 hp]; exact i1.mild (by decide) (by decide)
    · refine ⟨by simp, fun p hp => ?_⟩
      rw [List.mem_singleton.1 hp]; exact o6.mild (by decide) (by decide)
    · refine ⟨by simp, fun p hp => ?_⟩
      simp only [List.mem_cons, List.not_mem_nil, or_false] at hp
      rcases hp with rfl | rfl | rfl | rfl
      · exact n6.mild (by decide) (by decide)
      · exact q2.mild (by decide) (by decide)
      · exact q3.mild (by decide) (by decide)
      · exact q4.mild (by decide) (by decide)
  · exact Try.run39_false p1 p2 v1 v2 h1 h2 nm lv px py ln lo hi up dn mx rs gr co sw kf kt R fx fy ds px1 xs py1 ys k1 kk aa dx0 w5 dy nn xx yy sq xd yd al dy1 dy2 ac rl rest tp l2 la1 tip rr far lc ln1 f2 f3 f4 hperm hv hin r3 s1 u1 s2 u2 (by rw [w1]; exact s3) s4 s5 u4 s7 s8 s9 x1 x2 x3 x4 x5 x6 x7 x8 x9 (by rw [w2]; exact y1) y2 y3 (by rw [w3]; exact y4) y5 y6 y7 y8 y9 z1 z2 z3 z4 r1
  · simp only [atB, List.any_cons, List.any_nil, List.all_cons, List.all_nil, Bool.and_true, Bool.or_false, posAt_P i1, posAt_P o6, posAt_P n6, posAt_P q2, posAt_P q3, posAt_P q4, peval1, bladeB, dirX, Bool.false_eq_true, if_false]
    congr 1
    rw [decide_eq_decide]
    omega


theorem flip_at {p1 p2 v1 v2 h1 h2 : Int} {nm : ByteArray} {lv px py ln : Int} {mi : Bool} {lo hi up dn mx rs gr co sw kf kt R : Int} (a : In 8388608 p1 p2) (b : In 262144 v1 v2) (c : In 4096 h1 h2)
    (hp : permB px py ln lo hi up dn mx = true) (hf : -256 ≤ kf ∧ kf ≤ 256) (ht : -256 ≤ kt ∧ kt ≤ 256) (hR : 1 ≤ R ∧ R ≤ 524288) :
    ∃ dl : PPP, MildL dl ∧ Runs Try.ir 39 [.agg [.int .i64 p1, .int .i64 p2, .int .i64 v1, .int .i64 v2, .int .i64 h1, .int .i64 h2], .agg [.str nm, .int .i64 lv, .int .i64 px, .int .i64 py, .int .i64 ln, .bool mi, .int .i64 lo, .int .i64 hi, .int .i64 up, .int .i64 dn, .int .i64 mx, .int .i64 rs, .int .i64 gr, .int .i64 co, .int .i64 sw], .int .i64 kf, .int .i64 kt, .int .i64 R] (.fresh 1 dl.length (ppp dl)) ∧
      ∀ x, atB dl (16 * x) = bladeB (peval [p1, v1, h1] x - px) (peval [p2, v2, h2] x - py) (dirX mi (peval [kf, kt - kf] x)) (512 * peval [kf, kt - kf] x) (65536 + peval [kf, kt - kf] x * peval [kf, kt - kf] x) ln R := by
  cases mi
  · exact flip_at_false a b c hp hf ht hR
  · exact flip_at_true a b c hp hf ht hR
theorem fsamples_run (p1 p2 v1 v2 h1 h2 : Int) (nm : ByteArray) (lv px py ln : Int) (mi : Bool) (lo hi up dn mx rs gr co sw kf kt R : Int) : Runs Try.ir 10 [.agg [.int .i64 p1, .int .i64 p2, .int .i64 v1, .int .i64 v2, .int .i64 h1, .int .i64 h2], .agg [.str nm, .int .i64 lv, .int .i64 px, .int .i64 py, .int .i64 ln, .bool mi, .int .i64 lo, .int .i64 hi, .int .i64 up, .int .i64 dn, .int .i64 mx, .int .i64 rs, .int .i64 gr, .int .i64 co, .int .i64 sw, .int .i64 kf, .int .i64 kt], .int .i64 R] (.bool true) := by
  have haw := Try.run19
  have hva := Try.run35 p1 p2 v1 v2 h1 h2
  have hfl := Try.run24 nm lv px py ln mi lo hi up dn mx rs gr co sw
  have haf := Try.run25 kf
  have hat := Try.run25 kt
  obtain ⟨f1, f2, g1, g2, hend, hf12⟩ : ∃ f1 f2 g1 g2, Runs Try.ir 37 [.agg [.int .i64 p1, .int .i64 p2, .int .i64 v1, .int .i64 v2, .int .i64 h1, .int .i64 h2]] (.tup [.agg [.int .i64 f1, .int .i64 f2], .agg [.int .i64 g1, .int .i64 g2]]) ∧ (valid10 p1 p2 v1 v2 h1 h2 = true → f1 = p1 + v1 + h1 ∧ f2 = p2 + v2 + h2) := by
    cases cva : valid10 p1 p2 v1 v2 h1 h2 with
    | false =>
      rw [cva] at hva
      exact ⟨_, _, _, _, Try.run37_n p1 p2 v1 v2 h1 h2 hva, fun h => nomatch h⟩
    | true =>
      rw [cva] at hva
      obtain ⟨a, b, c⟩ := valid10_yes cva
      have h := Try.run37 p1 p2 v1 v2 h1 h2 hva
      have w1 : IntKind.i64.wrap (IntKind.i64.wrap (p1 + v1) + h1) = p1 + v1 + h1 := by
        unfold In at a b c
        rw [w64 (n := p1 + v1) (by omega) (by omega), w64 (by omega) (by omega)]
      have w2 : IntKind.i64.wrap (IntKind.i64.wrap (p2 + v2) + h2) = p2 + v2 + h2 := by
        unfold In at a b c
        rw [w64 (n := p2 + v2) (by omega) (by omega), w64 (by omega) (by omega)]
      rw [w1, w2] at h
      exact ⟨_, _, _, _, h, fun _ => ⟨rfl, rfl⟩⟩
  have hnp := Try.run28 p1 p2
  have hne := Try.run28 f1 f2
  cases cfl : flips px py ln lo hi up dn mx with
  | false => rw [cfl] at hfl; exact Try.run10_9 p1 p2 v1 v2 h1 h2 mi nm lv px py ln lo hi up dn mx rs gr co sw kf kt R f1 f2 g1 g2 false rfl haw hend hfl
  | true =>
  rw [cfl] at hfl
  rw [flips_eq] at cfl
  cases caf : angleB kf with
  | false => rw [caf] at haf; exact Try.run10_8 p1 p2 v1 v2 h1 h2 mi nm lv px py ln lo hi up dn mx rs gr co sw kf kt R f1 f2 g1 g2 true false rfl rfl haw hend hfl haf
  | true =>
  rw [caf] at haf
  have kf' := angleB_yes caf
  cases cat : angleB kt with
  | false => rw [cat] at hat; exact Try.run10_7 p1 p2 v1 v2 h1 h2 mi nm lv px py ln lo hi up dn mx rs gr co sw kf kt R f1 f2 g1 g2 true true false rfl rfl rfl haw hend hfl haf hat
  | true =>
  rw [cat] at hat
  have kt' := angleB_yes cat
  cases cva : valid10 p1 p2 v1 v2 h1 h2 with
  | false => rw [cva] at hva; exact Try.run10_6 p1 p2 v1 v2 h1 h2 mi nm lv px py ln lo hi up dn mx rs gr co sw kf kt R f1 f2 g1 g2 true true true false rfl rfl rfl rfl haw hend hfl haf hat hva
  | true =>
  rw [cva] at hva
  obtain ⟨rfl, rfl⟩ := hf12 cva
  obtain ⟨a, b, c⟩ := valid10_yes cva
  cases c1 : decide (R < 1) with
  | true => exact Try.run10_1 p1 p2 v1 v2 h1 h2 mi nm lv px py ln lo hi up dn mx rs gr co sw kf kt R _ _ g1 g2 true true true true rfl rfl rfl rfl c1 haw hend hfl haf hat hva
  | false =>
  cases c2 : decide (R > 524288) with
  | true => exact Try.run10_2 p1 p2 v1 v2 h1 h2 mi nm lv px py ln lo hi up dn mx rs gr co sw kf kt R _ _ g1 g2 true true true true rfl rfl rfl rfl c1 c2 haw hend hfl haf hat hva
  | false =>
  have hR : 1 ≤ R ∧ R ≤ 524288 := by simp at c1 c2; omega
  cases cnp : near13 p1 p2 with
  | false => rw [cnp] at hnp; exact Try.run10_5 p1 p2 v1 v2 h1 h2 mi nm lv px py ln lo hi up dn mx rs gr co sw kf kt R _ _ g1 g2 true true true true false rfl rfl rfl rfl c1 c2 rfl haw hend hfl haf hat hva hnp
  | true =>
  rw [cnp] at hnp
  cases cne : near13 (p1 + v1 + h1) (p2 + v2 + h2) with
  | false => rw [cne] at hne; exact Try.run10_4 p1 p2 v1 v2 h1 h2 mi nm lv px py ln lo hi up dn mx rs gr co sw kf kt R _ _ g1 g2 true true true true true false rfl rfl rfl rfl c1 c2 rfl rfl haw hend hfl haf hat hva hnp hne
  | true =>
  rw [cne] at hne
  have ip := near13_yes cnp
  have iv := near13_yes cne
  obtain ⟨cl, mc, rc, ec⟩ := flip_at (nm := nm) (lv := lv) (mi := mi) (rs := rs) (gr := gr) (co := co) (sw := sw) a b c cfl kf' kt' hR
  have A0 := at_run (l := cl) (j := 0) (by omega) mc.1 mc.2
  have A1 := at_run (l := cl) (j := 16) (by omega) mc.1 mc.2
  have z1 : peval [p1, v1, h1] 0 = p1 := by simp [peval]
  have z2 : peval [p2, v2, h2] 0 = p2 := by simp [peval]
  have z3 : peval [kf, kt - kf] 0 = kf := by simp [peval]
  have o1 : peval [p1, v1, h1] 1 = p1 + v1 + h1 := by simp [peval]; omega
  have o2 : peval [p2, v2, h2] 1 = p2 + v2 + h2 := by simp [peval]; omega
  have o3 : peval [kf, kt - kf] 1 = kt := by simp [peval]; omega
  have ec0 := ec 0
  have ec1 := ec 1
  rw [z1, z2, z3, Int.mul_zero] at ec0
  rw [o1, o2, o3, Int.mul_one] at ec1
  rw [ec0] at A0
  rw [ec1] at A1
  have C0 := Try.run34 p1 p2 nm lv px py ln mi lo hi up dn mx rs gr co sw kf R
  rw [inside_blade mi cfl kf' hR ip] at C0
  have C1 := Try.run34 (p1 + v1 + h1) (p2 + v2 + h2) nm lv px py ln mi lo hi up dn mx rs gr co sw kt R
  rw [inside_blade mi cfl kt' hR iv] at C1
  have k := Try.run10_3 p1 p2 v1 v2 h1 h2 mi nm lv px py ln lo hi up dn mx rs gr co sw kf kt R _ _ g1 g2 true true true true true true _ _ cl (by simp) rfl rfl rfl rfl c1 c2 rfl rfl haw hend hfl haf hat hva hnp hne rc A0 C0 A1 C1
  rw [beq_self_eq_true] at k
  exact k

def TFS : Table := TFIns
theorem TFS_holds : THolds Try.ir TFS := TFIns_holds
end Go.Proofs.Ythakfjlnhldehaa

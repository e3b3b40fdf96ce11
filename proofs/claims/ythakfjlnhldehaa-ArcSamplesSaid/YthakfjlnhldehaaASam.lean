/- The package arc: its conditions, as polynomials. -/
import Derived.Test.YthakfjlnhldehaaAt
import Derived.Test.YthakfjlnhldehaaDisc
import Derived.Test.YthakfjlnhldehaaArcPlain
namespace Go.Proofs.Ythakfjlnhldehaa
open Go.Ai
set_option maxRecDepth 100000

theorem Try.run67 (as1 bs xs ys us vs ws : List Rn) (n1 : Runs Try.ir 66 [.sl as1.length (pc as1), .sl ys.length (pc ys)] (.fresh 2 us.length (pc us)))
    (n2 : Runs Try.ir 66 [.sl bs.length (pc bs), .sl xs.length (pc xs)] (.fresh 2 vs.length (pc vs)))
    (n3 : Runs Try.ir 63 [.sl us.length (pc us), .sl vs.length (pc vs)] (.fresh 2 ws.length (pc ws))) : Runs Try.ir 67 [.sl as1.length (pc as1), .sl bs.length (pc bs), .sl xs.length (pc xs), .sl ys.length (pc ys)] (.fresh 2 ws.length (pc ws)) :=
  Runs.script (r := .fresh 2 ws.length (pc ws)) (ps := [Runs Try.ir 66 [.sl as1.length (pc as1), .sl ys.length (pc ys)] (.fresh 2 us.length (pc us)), Runs Try.ir 66 [.sl bs.length (pc bs), .sl xs.length (pc xs)] (.fresh 2 vs.length (pc vs)), Runs Try.ir 63 [.sl us.length (pc us), .sl vs.length (pc vs)] (.fresh 2 ws.length (pc ws))]) TAt_holds rfl 400 rfl [.r (.fresh 2 us.length (pc us)), .r (.fresh 2 vs.length (pc vs)), .r (.fresh 2 ws.length (pc ws))] (by kernel_rfl) ⟨n1, n2, n3, trivial⟩

theorem Try.run36 (p1 p2 v1 v2 h1 h2 : Int) (nm : ByteArray) (lv cx cy sx sy ex ey rs gr mi sw : Int) (reach q s1 s2 e1 e2 : Int) (fx fy ccx ccy ssx ssy eex eey xs ys xx yy sq k1 k2 qp qm m1 m2 ds es : List Rn) (c1 : (decide (reach < 1)) = false)
    (c2 : (decide (reach ≥ q)) = false)
    (n1 : Runs Try.ir 14 [.agg [.str nm, .int .i64 lv, .int .i64 cx, .int .i64 cy, .int .i64 sx, .int .i64 sy, .int .i64 ex, .int .i64 ey, .int .i64 rs, .int .i64 gr, .int .i64 mi, .int .i64 sw]] (.tup [.int .i64 q, .bool true]))
    (n2 : Runs Try.ir 61 [.agg [.int .i64 p1, .int .i64 p2, .int .i64 v1, .int .i64 v2, .int .i64 h1, .int .i64 h2]] (.bool true))
    (n3 : Runs Try.ir 62 [.agg [.int .i64 p1, .int .i64 p2, .int .i64 v1, .int .i64 v2, .int .i64 h1, .int .i64 h2]] (.tup [.sl fx.length (pc fx), .sl fy.length (pc fy)]))
    (n4 : Runs Try.ir 64 [.sl 1 [.int .i64 cx]] (.fresh 2 ccx.length (pc ccx)))
    (n5 : Runs Try.ir 63 [.sl fx.length (pc fx), .sl ccx.length (pc ccx)] (.fresh 2 xs.length (pc xs)))
    (n6 : Runs Try.ir 64 [.sl 1 [.int .i64 cy]] (.fresh 2 ccy.length (pc ccy)))
    (n7 : Runs Try.ir 63 [.sl fy.length (pc fy), .sl ccy.length (pc ccy)] (.fresh 2 ys.length (pc ys)))
    (n8 : Runs Try.ir 43 [.agg [.int .i64 sx, .int .i64 sy], .agg [.int .i64 cx, .int .i64 cy]] (.agg [.int .i64 s1, .int .i64 s2]))
    (n9 : Runs Try.ir 43 [.agg [.int .i64 ex, .int .i64 ey], .agg [.int .i64 cx, .int .i64 cy]] (.agg [.int .i64 e1, .int .i64 e2]))
    (n10 : Runs Try.ir 66 [.sl xs.length (pc xs), .sl xs.length (pc xs)] (.fresh 2 xx.length (pc xx)))
    (n11 : Runs Try.ir 66 [.sl ys.length (pc ys), .sl ys.length (pc ys)] (.fresh 2 yy.length (pc yy)))
    (n12 : Runs Try.ir 65 [.sl xx.length (pc xx), .sl yy.length (pc yy)] (.fresh 2 sq.length (pc sq)))
    (n13 : Runs Try.ir 64 [.sl 1 [.int .i64 s1]] (.fresh 2 ssx.length (pc ssx)))
    (n14 : Runs Try.ir 64 [.sl 1 [.int .i64 s2]] (.fresh 2 ssy.length (pc ssy)))
    (n15 : Runs Try.ir 67 [.sl ssx.length (pc ssx), .sl ssy.length (pc ssy), .sl xs.length (pc xs), .sl ys.length (pc ys)] (.fresh 2 k1.length (pc k1)))
    (n16 : Runs Try.ir 64 [.sl 1 [.int .i64 e1]] (.fresh 2 eex.length (pc eex)))
    (n17 : Runs Try.ir 64 [.sl 1 [.int .i64 e2]] (.fresh 2 eey.length (pc eey)))
    (n18 : Runs Try.ir 67 [.sl xs.length (pc xs), .sl ys.length (pc ys), .sl eex.length (pc eex), .sl eey.length (pc eey)] (.fresh 2 k2.length (pc k2)))
    (n19 : Runs Try.ir 64 [.sl 1 [.int .i64 (IntKind.i64.wrap ((IntKind.i64.wrap (q + reach)) * (IntKind.i64.wrap (q + reach))))]] (.fresh 2 qp.length (pc qp)))
    (n20 : Runs Try.ir 63 [.sl qp.length (pc qp), .sl sq.length (pc sq)] (.fresh 2 m1.length (pc m1)))
    (n21 : Runs Try.ir 64 [.sl 1 [.int .i64 (IntKind.i64.wrap ((IntKind.i64.wrap (q - reach)) * (IntKind.i64.wrap (q - reach))))]] (.fresh 2 qm.length (pc qm)))
    (n22 : Runs Try.ir 63 [.sl sq.length (pc sq), .sl qm.length (pc qm)] (.fresh 2 m2.length (pc m2)))
    (n23 : Runs Try.ir 68 [.agg [.int .i64 p1, .int .i64 p2, .int .i64 v1, .int .i64 v2, .int .i64 h1, .int .i64 h2], .agg [.int .i64 sx, .int .i64 sy], .int .i64 reach] (.fresh 1 1 [.sl 1 [.sl ds.length (pc ds)]]))
    (n24 : Runs Try.ir 68 [.agg [.int .i64 p1, .int .i64 p2, .int .i64 v1, .int .i64 v2, .int .i64 h1, .int .i64 h2], .agg [.int .i64 ex, .int .i64 ey], .int .i64 reach] (.fresh 1 1 [.sl 1 [.sl es.length (pc es)]])) : Runs Try.ir 36 [.agg [.int .i64 p1, .int .i64 p2, .int .i64 v1, .int .i64 v2, .int .i64 h1, .int .i64 h2], .agg [.str nm, .int .i64 lv, .int .i64 cx, .int .i64 cy, .int .i64 sx, .int .i64 sy, .int .i64 ex, .int .i64 ey, .int .i64 rs, .int .i64 gr, .int .i64 mi, .int .i64 sw], .int .i64 reach] (.fresh 1 3 [.sl 1 [.sl ds.length (pc ds)], .sl 1 [.sl es.length (pc es)], .sl 4 [.sl k1.length (pc k1), .sl k2.length (pc k2), .sl m1.length (pc m1), .sl m2.length (pc m2)]]) :=
  Runs.script (r := .fresh 1 3 [.sl 1 [.sl ds.length (pc ds)], .sl 1 [.sl es.length (pc es)], .sl 4 [.sl k1.length (pc k1), .sl k2.length (pc k2), .sl m1.length (pc m1), .sl m2.length (pc m2)]]) (ps := [Runs Try.ir 14 [.agg [.str nm, .int .i64 lv, .int .i64 cx, .int .i64 cy, .int .i64 sx, .int .i64 sy, .int .i64 ex, .int .i64 ey, .int .i64 rs, .int .i64 gr, .int .i64 mi, .int .i64 sw]] (.tup [.int .i64 q, .bool true]), false = false, (decide (reach < 1)) = false, (decide (reach ≥ q)) = false, Runs Try.ir 61 [.agg [.int .i64 p1, .int .i64 p2, .int .i64 v1, .int .i64 v2, .int .i64 h1, .int .i64 h2]] (.bool true), false = false, Runs Try.ir 62 [.agg [.int .i64 p1, .int .i64 p2, .int .i64 v1, .int .i64 v2, .int .i64 h1, .int .i64 h2]] (.tup [.sl fx.length (pc fx), .sl fy.length (pc fy)]), Runs Try.ir 64 [.sl 1 [.int .i64 cx]] (.fresh 2 ccx.length (pc ccx)), Runs Try.ir 63 [.sl fx.length (pc fx), .sl ccx.length (pc ccx)] (.fresh 2 xs.length (pc xs)), Runs Try.ir 64 [.sl 1 [.int .i64 cy]] (.fresh 2 ccy.length (pc ccy)), Runs Try.ir 63 [.sl fy.length (pc fy), .sl ccy.length (pc ccy)] (.fresh 2 ys.length (pc ys)), Runs Try.ir 43 [.agg [.int .i64 sx, .int .i64 sy], .agg [.int .i64 cx, .int .i64 cy]] (.agg [.int .i64 s1, .int .i64 s2]), Runs Try.ir 43 [.agg [.int .i64 ex, .int .i64 ey], .agg [.int .i64 cx, .int .i64 cy]] (.agg [.int .i64 e1, .int .i64 e2]), Runs Try.ir 66 [.sl xs.length (pc xs), .sl xs.length (pc xs)] (.fresh 2 xx.length (pc xx)), Runs Try.ir 66 [.sl ys.length (pc ys), .sl ys.length (pc ys)] (.fresh 2 yy.length (pc yy)), Runs Try.ir 65 [.sl xx.length (pc xx), .sl yy.length (pc yy)] (.fresh 2 sq.length (pc sq)), Runs Try.ir 64 [.sl 1 [.int .i64 s1]] (.fresh 2 ssx.length (pc ssx)), Runs Try.ir 64 [.sl 1 [.int .i64 s2]] (.fresh 2 ssy.length (pc ssy)), Runs Try.ir 67 [.sl ssx.length (pc ssx), .sl ssy.length (pc ssy), .sl xs.length (pc xs), .sl ys.length (pc ys)] (.fresh 2 k1.length (pc k1)), Runs Try.ir 64 [.sl 1 [.int .i64 e1]] (.fresh 2 eex.length (pc eex)), Runs Try.ir 64 [.sl 1 [.int .i64 e2]] (.fresh 2 eey.length (pc eey)), Runs Try.ir 67 [.sl xs.length (pc xs), .sl ys.length (pc ys), .sl eex.length (pc eex), .sl eey.length (pc eey)] (.fresh 2 k2.length (pc k2)), Runs Try.ir 64 [.sl 1 [.int .i64 (IntKind.i64.wrap ((IntKind.i64.wrap (q + reach)) * (IntKind.i64.wrap (q + reach))))]] (.fresh 2 qp.length (pc qp)), Runs Try.ir 63 [.sl qp.length (pc qp), .sl sq.length (pc sq)] (.fresh 2 m1.length (pc m1)), Runs Try.ir 64 [.sl 1 [.int .i64 (IntKind.i64.wrap ((IntKind.i64.wrap (q - reach)) * (IntKind.i64.wrap (q - reach))))]] (.fresh 2 qm.length (pc qm)), Runs Try.ir 63 [.sl sq.length (pc sq), .sl qm.length (pc qm)] (.fresh 2 m2.length (pc m2)), Runs Try.ir 68 [.agg [.int .i64 p1, .int .i64 p2, .int .i64 v1, .int .i64 v2, .int .i64 h1, .int .i64 h2], .agg [.int .i64 sx, .int .i64 sy], .int .i64 reach] (.fresh 1 1 [.sl 1 [.sl ds.length (pc ds)]]), Runs Try.ir 68 [.agg [.int .i64 p1, .int .i64 p2, .int .i64 v1, .int .i64 v2, .int .i64 h1, .int .i64 h2], .agg [.int .i64 ex, .int .i64 ey], .int .i64 reach] (.fresh 1 1 [.sl 1 [.sl es.length (pc es)]]), List.length ([.sl 1 [.sl es.length (pc es)]] : List AV) = 1 * 1, 1 + 1 ≤ 1048576, List.length ([.sl 4 [.sl k1.length (pc k1), .sl k2.length (pc k2), .sl m1.length (pc m1), .sl m2.length (pc m2)]] : List AV) = 1 * 1, 2 + 1 ≤ 1048576]) TAt_holds rfl 400 rfl [.r (.tup [.int .i64 q, .bool true]), .b false, .b false, .b false, .r (.bool true), .b false, .r (.tup [.sl fx.length (pc fx), .sl fy.length (pc fy)]), .r (.fresh 2 ccx.length (pc ccx)), .r (.fresh 2 xs.length (pc xs)), .r (.fresh 2 ccy.length (pc ccy)), .r (.fresh 2 ys.length (pc ys)), .r (.agg [.int .i64 s1, .int .i64 s2]), .r (.agg [.int .i64 e1, .int .i64 e2]), .r (.fresh 2 xx.length (pc xx)), .r (.fresh 2 yy.length (pc yy)), .r (.fresh 2 sq.length (pc sq)), .r (.fresh 2 ssx.length (pc ssx)), .r (.fresh 2 ssy.length (pc ssy)), .r (.fresh 2 k1.length (pc k1)), .r (.fresh 2 eex.length (pc eex)), .r (.fresh 2 eey.length (pc eey)), .r (.fresh 2 k2.length (pc k2)), .r (.fresh 2 qp.length (pc qp)), .r (.fresh 2 m1.length (pc m1)), .r (.fresh 2 qm.length (pc qm)), .r (.fresh 2 m2.length (pc m2)), .r (.fresh 1 1 [.sl 1 [.sl ds.length (pc ds)]]), .r (.fresh 1 1 [.sl 1 [.sl es.length (pc es)]])] (by kernel_rfl) ⟨n1, rfl, c1, c2, n2, rfl, n3, n4, n5, n6, n7, n8, n9, n10, n11, n12, n13, n14, n15, n16, n17, n18, n19, n20, n21, n22, n23, n24, rfl, (by decide), rfl, (by decide), trivial⟩

theorem Try.run9_1 (p1 p2 v1 v2 h1 h2 : Int) (nm : ByteArray) (lv cx cy sx sy ex ey rs gr mi sw : Int) (reach q : Int) (ok : Bool) (c3 : (ok) = true)
    (c4 : (decide (reach < 1)) = true)
    (n1 : Runs Try.ir 11 [] (.bool true))
    (n2 : Runs Try.ir 14 [.agg [.str nm, .int .i64 lv, .int .i64 cx, .int .i64 cy, .int .i64 sx, .int .i64 sy, .int .i64 ex, .int .i64 ey, .int .i64 rs, .int .i64 gr, .int .i64 mi, .int .i64 sw]] (.tup [.int .i64 q, .bool ok])) : Runs Try.ir 9 [.agg [.int .i64 p1, .int .i64 p2, .int .i64 v1, .int .i64 v2, .int .i64 h1, .int .i64 h2], .agg [.str nm, .int .i64 lv, .int .i64 cx, .int .i64 cy, .int .i64 sx, .int .i64 sy, .int .i64 ex, .int .i64 ey, .int .i64 rs, .int .i64 gr, .int .i64 mi, .int .i64 sw], .int .i64 reach] (.bool true) :=
  Runs.script (r := .bool true) (ps := [Runs Try.ir 11 [] (.bool true), false = false, Runs Try.ir 14 [.agg [.str nm, .int .i64 lv, .int .i64 cx, .int .i64 cy, .int .i64 sx, .int .i64 sy, .int .i64 ex, .int .i64 ey, .int .i64 rs, .int .i64 gr, .int .i64 mi, .int .i64 sw]] (.tup [.int .i64 q, .bool ok]), (!ok) = false, (decide (reach < 1)) = true, true = true, true = true, true = true, Runs Try.ir 11 [] (.bool true)]) TAt_holds rfl 400 rfl [.r (.bool true), .b false, .r (.tup [.int .i64 q, .bool ok]), .b false, .b true, .b true, .b true, .b true, .r (.bool true)] (by kernel_rfl) ⟨n1, rfl, n2, (by rw [c3]; rfl), c4, rfl, rfl, rfl, n1, trivial⟩

theorem Try.run9_2 (p1 p2 v1 v2 h1 h2 : Int) (nm : ByteArray) (lv cx cy sx sy ex ey rs gr mi sw : Int) (reach q : Int) (ok : Bool) (c3 : (ok) = true)
    (c4 : (decide (reach < 1)) = false)
    (c5 : (decide (reach ≥ q)) = true)
    (n1 : Runs Try.ir 11 [] (.bool true))
    (n2 : Runs Try.ir 14 [.agg [.str nm, .int .i64 lv, .int .i64 cx, .int .i64 cy, .int .i64 sx, .int .i64 sy, .int .i64 ex, .int .i64 ey, .int .i64 rs, .int .i64 gr, .int .i64 mi, .int .i64 sw]] (.tup [.int .i64 q, .bool ok])) : Runs Try.ir 9 [.agg [.int .i64 p1, .int .i64 p2, .int .i64 v1, .int .i64 v2, .int .i64 h1, .int .i64 h2], .agg [.str nm, .int .i64 lv, .int .i64 cx, .int .i64 cy, .int .i64 sx, .int .i64 sy, .int .i64 ex, .int .i64 ey, .int .i64 rs, .int .i64 gr, .int .i64 mi, .int .i64 sw], .int .i64 reach] (.bool true) :=
  Runs.script (r := .bool true) (ps := [Runs Try.ir 11 [] (.bool true), false = false, Runs Try.ir 14 [.agg [.str nm, .int .i64 lv, .int .i64 cx, .int .i64 cy, .int .i64 sx, .int .i64 sy, .int .i64 ex, .int .i64 ey, .int .i64 rs, .int .i64 gr, .int .i64 mi, .int .i64 sw]] (.tup [.int .i64 q, .bool ok]), (!ok) = false, (decide (reach < 1)) = false, (decide (reach ≥ q)) = true, true = true, true = true, Runs Try.ir 11 [] (.bool true)]) TAt_holds rfl 400 rfl [.r (.bool true), .b false, .r (.tup [.int .i64 q, .bool ok]), .b false, .b false, .b true, .b true, .b true, .r (.bool true)] (by kernel_rfl) ⟨n1, rfl, n2, (by rw [c3]; rfl), c4, c5, rfl, rfl, n1, trivial⟩

theorem Try.run9_3 (p1 p2 v1 v2 h1 h2 : Int) (nm : ByteArray) (lv cx cy sx sy ex ey rs gr mi sw : Int) (reach q f1 f2 g1 g2 : Int) (ok va np ne x0 x1 : Bool) (cl : PPP) (c1 : (x0 == x0) = true)
    (c3 : (ok) = true)
    (c4 : (decide (reach < 1)) = false)
    (c5 : (decide (reach ≥ q)) = false)
    (c6 : (va) = true)
    (c7 : (np) = true)
    (c8 : (ne) = true)
    (n1 : Runs Try.ir 11 [] (.bool true))
    (n2 : Runs Try.ir 14 [.agg [.str nm, .int .i64 lv, .int .i64 cx, .int .i64 cy, .int .i64 sx, .int .i64 sy, .int .i64 ex, .int .i64 ey, .int .i64 rs, .int .i64 gr, .int .i64 mi, .int .i64 sw]] (.tup [.int .i64 q, .bool ok]))
    (n3 : Runs Try.ir 35 [.agg [.int .i64 p1, .int .i64 p2, .int .i64 v1, .int .i64 v2, .int .i64 h1, .int .i64 h2]] (.bool va))
    (n4 : Runs Try.ir 12 [.agg [.int .i64 p1, .int .i64 p2]] (.bool np))
    (n5 : Runs Try.ir 36 [.agg [.int .i64 p1, .int .i64 p2, .int .i64 v1, .int .i64 v2, .int .i64 h1, .int .i64 h2], .agg [.str nm, .int .i64 lv, .int .i64 cx, .int .i64 cy, .int .i64 sx, .int .i64 sy, .int .i64 ex, .int .i64 ey, .int .i64 rs, .int .i64 gr, .int .i64 mi, .int .i64 sw], .int .i64 reach] (.fresh 1 cl.length (ppp cl)))
    (n6 : Runs Try.ir 37 [.agg [.int .i64 p1, .int .i64 p2, .int .i64 v1, .int .i64 v2, .int .i64 h1, .int .i64 h2]] (.tup [.agg [.int .i64 f1, .int .i64 f2], .agg [.int .i64 g1, .int .i64 g2]]))
    (n7 : Runs Try.ir 38 [.sl cl.length (ppp cl), .int .i64 0] (.bool x0))
    (n8 : Runs Try.ir 18 [.agg [.int .i64 p1, .int .i64 p2], .agg [.str nm, .int .i64 lv, .int .i64 cx, .int .i64 cy, .int .i64 sx, .int .i64 sy, .int .i64 ex, .int .i64 ey, .int .i64 rs, .int .i64 gr, .int .i64 mi, .int .i64 sw], .int .i64 reach] (.bool x0))
    (n9 : Runs Try.ir 12 [.agg [.int .i64 f1, .int .i64 f2]] (.bool ne))
    (n10 : Runs Try.ir 38 [.sl cl.length (ppp cl), .int .i64 16] (.bool x1))
    (n11 : Runs Try.ir 18 [.agg [.int .i64 f1, .int .i64 f2], .agg [.str nm, .int .i64 lv, .int .i64 cx, .int .i64 cy, .int .i64 sx, .int .i64 sy, .int .i64 ex, .int .i64 ey, .int .i64 rs, .int .i64 gr, .int .i64 mi, .int .i64 sw], .int .i64 reach] (.bool x1)) : Runs Try.ir 9 [.agg [.int .i64 p1, .int .i64 p2, .int .i64 v1, .int .i64 v2, .int .i64 h1, .int .i64 h2], .agg [.str nm, .int .i64 lv, .int .i64 cx, .int .i64 cy, .int .i64 sx, .int .i64 sy, .int .i64 ex, .int .i64 ey, .int .i64 rs, .int .i64 gr, .int .i64 mi, .int .i64 sw], .int .i64 reach] (.bool (x1 == x1)) :=
  Runs.script (r := .bool (x1 == x1)) (ps := [Runs Try.ir 11 [] (.bool true), false = false, Runs Try.ir 14 [.agg [.str nm, .int .i64 lv, .int .i64 cx, .int .i64 cy, .int .i64 sx, .int .i64 sy, .int .i64 ex, .int .i64 ey, .int .i64 rs, .int .i64 gr, .int .i64 mi, .int .i64 sw]] (.tup [.int .i64 q, .bool ok]), (!ok) = false, (decide (reach < 1)) = false, (decide (reach ≥ q)) = false, Runs Try.ir 35 [.agg [.int .i64 p1, .int .i64 p2, .int .i64 v1, .int .i64 v2, .int .i64 h1, .int .i64 h2]] (.bool va), (!va) = false, Runs Try.ir 12 [.agg [.int .i64 p1, .int .i64 p2]] (.bool np), (!np) = false, Runs Try.ir 36 [.agg [.int .i64 p1, .int .i64 p2, .int .i64 v1, .int .i64 v2, .int .i64 h1, .int .i64 h2], .agg [.str nm, .int .i64 lv, .int .i64 cx, .int .i64 cy, .int .i64 sx, .int .i64 sy, .int .i64 ex, .int .i64 ey, .int .i64 rs, .int .i64 gr, .int .i64 mi, .int .i64 sw], .int .i64 reach] (.fresh 1 cl.length (ppp cl)), Runs Try.ir 37 [.agg [.int .i64 p1, .int .i64 p2, .int .i64 v1, .int .i64 v2, .int .i64 h1, .int .i64 h2]] (.tup [.agg [.int .i64 f1, .int .i64 f2], .agg [.int .i64 g1, .int .i64 g2]]), Runs Try.ir 38 [.sl cl.length (ppp cl), .int .i64 0] (.bool x0), Runs Try.ir 18 [.agg [.int .i64 p1, .int .i64 p2], .agg [.str nm, .int .i64 lv, .int .i64 cx, .int .i64 cy, .int .i64 sx, .int .i64 sy, .int .i64 ex, .int .i64 ey, .int .i64 rs, .int .i64 gr, .int .i64 mi, .int .i64 sw], .int .i64 reach] (.bool x0), (x0 == x0) = true, Runs Try.ir 12 [.agg [.int .i64 f1, .int .i64 f2]] (.bool ne), (!ne) = false, Runs Try.ir 38 [.sl cl.length (ppp cl), .int .i64 16] (.bool x1), Runs Try.ir 18 [.agg [.int .i64 f1, .int .i64 f2], .agg [.str nm, .int .i64 lv, .int .i64 cx, .int .i64 cy, .int .i64 sx, .int .i64 sy, .int .i64 ex, .int .i64 ey, .int .i64 rs, .int .i64 gr, .int .i64 mi, .int .i64 sw], .int .i64 reach] (.bool x1), (x0 == x0) = true, (!ne) = false]) TAt_holds rfl 400 rfl [.r (.bool true), .b false, .r (.tup [.int .i64 q, .bool ok]), .b false, .b false, .b false, .r (.bool va), .b false, .r (.bool np), .b false, .r (.fresh 1 cl.length (ppp cl)), .r (.tup [.agg [.int .i64 f1, .int .i64 f2], .agg [.int .i64 g1, .int .i64 g2]]), .r (.bool x0), .r (.bool x0), .b true, .r (.bool ne), .b false, .r (.bool x1), .r (.bool x1), .b true, .b false] (by kernel_rfl) ⟨n1, rfl, n2, (by rw [c3]; rfl), c4, c5, n3, (by rw [c6]; rfl), n4, (by rw [c7]; rfl), n5, n6, n7, n8, c1, n9, (by rw [c8]; rfl), n10, n11, c1, (by rw [c8]; rfl), trivial⟩

theorem Try.run9_4 (p1 p2 v1 v2 h1 h2 : Int) (nm : ByteArray) (lv cx cy sx sy ex ey rs gr mi sw : Int) (reach q f1 f2 g1 g2 : Int) (ok va np ne x0 : Bool) (cl : PPP) (c1 : (x0 == x0) = true)
    (c3 : (ok) = true)
    (c4 : (decide (reach < 1)) = false)
    (c5 : (decide (reach ≥ q)) = false)
    (c6 : (va) = true)
    (c7 : (np) = true)
    (c8 : (ne) = false)
    (n1 : Runs Try.ir 11 [] (.bool true))
    (n2 : Runs Try.ir 14 [.agg [.str nm, .int .i64 lv, .int .i64 cx, .int .i64 cy, .int .i64 sx, .int .i64 sy, .int .i64 ex, .int .i64 ey, .int .i64 rs, .int .i64 gr, .int .i64 mi, .int .i64 sw]] (.tup [.int .i64 q, .bool ok]))
    (n3 : Runs Try.ir 35 [.agg [.int .i64 p1, .int .i64 p2, .int .i64 v1, .int .i64 v2, .int .i64 h1, .int .i64 h2]] (.bool va))
    (n4 : Runs Try.ir 12 [.agg [.int .i64 p1, .int .i64 p2]] (.bool np))
    (n5 : Runs Try.ir 36 [.agg [.int .i64 p1, .int .i64 p2, .int .i64 v1, .int .i64 v2, .int .i64 h1, .int .i64 h2], .agg [.str nm, .int .i64 lv, .int .i64 cx, .int .i64 cy, .int .i64 sx, .int .i64 sy, .int .i64 ex, .int .i64 ey, .int .i64 rs, .int .i64 gr, .int .i64 mi, .int .i64 sw], .int .i64 reach] (.fresh 1 cl.length (ppp cl)))
    (n6 : Runs Try.ir 37 [.agg [.int .i64 p1, .int .i64 p2, .int .i64 v1, .int .i64 v2, .int .i64 h1, .int .i64 h2]] (.tup [.agg [.int .i64 f1, .int .i64 f2], .agg [.int .i64 g1, .int .i64 g2]]))
    (n7 : Runs Try.ir 38 [.sl cl.length (ppp cl), .int .i64 0] (.bool x0))
    (n8 : Runs Try.ir 18 [.agg [.int .i64 p1, .int .i64 p2], .agg [.str nm, .int .i64 lv, .int .i64 cx, .int .i64 cy, .int .i64 sx, .int .i64 sy, .int .i64 ex, .int .i64 ey, .int .i64 rs, .int .i64 gr, .int .i64 mi, .int .i64 sw], .int .i64 reach] (.bool x0))
    (n9 : Runs Try.ir 12 [.agg [.int .i64 f1, .int .i64 f2]] (.bool ne)) : Runs Try.ir 9 [.agg [.int .i64 p1, .int .i64 p2, .int .i64 v1, .int .i64 v2, .int .i64 h1, .int .i64 h2], .agg [.str nm, .int .i64 lv, .int .i64 cx, .int .i64 cy, .int .i64 sx, .int .i64 sy, .int .i64 ex, .int .i64 ey, .int .i64 rs, .int .i64 gr, .int .i64 mi, .int .i64 sw], .int .i64 reach] (.bool true) :=
  Runs.script (r := .bool true) (ps := [Runs Try.ir 11 [] (.bool true), false = false, Runs Try.ir 14 [.agg [.str nm, .int .i64 lv, .int .i64 cx, .int .i64 cy, .int .i64 sx, .int .i64 sy, .int .i64 ex, .int .i64 ey, .int .i64 rs, .int .i64 gr, .int .i64 mi, .int .i64 sw]] (.tup [.int .i64 q, .bool ok]), (!ok) = false, (decide (reach < 1)) = false, (decide (reach ≥ q)) = false, Runs Try.ir 35 [.agg [.int .i64 p1, .int .i64 p2, .int .i64 v1, .int .i64 v2, .int .i64 h1, .int .i64 h2]] (.bool va), (!va) = false, Runs Try.ir 12 [.agg [.int .i64 p1, .int .i64 p2]] (.bool np), (!np) = false, Runs Try.ir 36 [.agg [.int .i64 p1, .int .i64 p2, .int .i64 v1, .int .i64 v2, .int .i64 h1, .int .i64 h2], .agg [.str nm, .int .i64 lv, .int .i64 cx, .int .i64 cy, .int .i64 sx, .int .i64 sy, .int .i64 ex, .int .i64 ey, .int .i64 rs, .int .i64 gr, .int .i64 mi, .int .i64 sw], .int .i64 reach] (.fresh 1 cl.length (ppp cl)), Runs Try.ir 37 [.agg [.int .i64 p1, .int .i64 p2, .int .i64 v1, .int .i64 v2, .int .i64 h1, .int .i64 h2]] (.tup [.agg [.int .i64 f1, .int .i64 f2], .agg [.int .i64 g1, .int .i64 g2]]), Runs Try.ir 38 [.sl cl.length (ppp cl), .int .i64 0] (.bool x0), Runs Try.ir 18 [.agg [.int .i64 p1, .int .i64 p2], .agg [.str nm, .int .i64 lv, .int .i64 cx, .int .i64 cy, .int .i64 sx, .int .i64 sy, .int .i64 ex, .int .i64 ey, .int .i64 rs, .int .i64 gr, .int .i64 mi, .int .i64 sw], .int .i64 reach] (.bool x0), (x0 == x0) = true, Runs Try.ir 12 [.agg [.int .i64 f1, .int .i64 f2]] (.bool ne), (!ne) = true, (x0 == x0) = true, (!ne) = true]) TAt_holds rfl 400 rfl [.r (.bool true), .b false, .r (.tup [.int .i64 q, .bool ok]), .b false, .b false, .b false, .r (.bool va), .b false, .r (.bool np), .b false, .r (.fresh 1 cl.length (ppp cl)), .r (.tup [.agg [.int .i64 f1, .int .i64 f2], .agg [.int .i64 g1, .int .i64 g2]]), .r (.bool x0), .r (.bool x0), .b true, .r (.bool ne), .b true, .b true, .b true] (by kernel_rfl) ⟨n1, rfl, n2, (by rw [c3]; rfl), c4, c5, n3, (by rw [c6]; rfl), n4, (by rw [c7]; rfl), n5, n6, n7, n8, c1, n9, (by rw [c8]; rfl), c1, (by rw [c8]; rfl), trivial⟩

theorem Try.run9_5 (p1 p2 v1 v2 h1 h2 : Int) (nm : ByteArray) (lv cx cy sx sy ex ey rs gr mi sw : Int) (reach q : Int) (ok va np : Bool) (c3 : (ok) = true)
    (c4 : (decide (reach < 1)) = false)
    (c5 : (decide (reach ≥ q)) = false)
    (c6 : (va) = true)
    (c7 : (np) = false)
    (n1 : Runs Try.ir 11 [] (.bool true))
    (n2 : Runs Try.ir 14 [.agg [.str nm, .int .i64 lv, .int .i64 cx, .int .i64 cy, .int .i64 sx, .int .i64 sy, .int .i64 ex, .int .i64 ey, .int .i64 rs, .int .i64 gr, .int .i64 mi, .int .i64 sw]] (.tup [.int .i64 q, .bool ok]))
    (n3 : Runs Try.ir 35 [.agg [.int .i64 p1, .int .i64 p2, .int .i64 v1, .int .i64 v2, .int .i64 h1, .int .i64 h2]] (.bool va))
    (n4 : Runs Try.ir 12 [.agg [.int .i64 p1, .int .i64 p2]] (.bool np)) : Runs Try.ir 9 [.agg [.int .i64 p1, .int .i64 p2, .int .i64 v1, .int .i64 v2, .int .i64 h1, .int .i64 h2], .agg [.str nm, .int .i64 lv, .int .i64 cx, .int .i64 cy, .int .i64 sx, .int .i64 sy, .int .i64 ex, .int .i64 ey, .int .i64 rs, .int .i64 gr, .int .i64 mi, .int .i64 sw], .int .i64 reach] (.bool true) :=
  Runs.script (r := .bool true) (ps := [Runs Try.ir 11 [] (.bool true), false = false, Runs Try.ir 14 [.agg [.str nm, .int .i64 lv, .int .i64 cx, .int .i64 cy, .int .i64 sx, .int .i64 sy, .int .i64 ex, .int .i64 ey, .int .i64 rs, .int .i64 gr, .int .i64 mi, .int .i64 sw]] (.tup [.int .i64 q, .bool ok]), (!ok) = false, (decide (reach < 1)) = false, (decide (reach ≥ q)) = false, Runs Try.ir 35 [.agg [.int .i64 p1, .int .i64 p2, .int .i64 v1, .int .i64 v2, .int .i64 h1, .int .i64 h2]] (.bool va), (!va) = false, Runs Try.ir 12 [.agg [.int .i64 p1, .int .i64 p2]] (.bool np), (!np) = true, Runs Try.ir 11 [] (.bool true)]) TAt_holds rfl 400 rfl [.r (.bool true), .b false, .r (.tup [.int .i64 q, .bool ok]), .b false, .b false, .b false, .r (.bool va), .b false, .r (.bool np), .b true, .r (.bool true)] (by kernel_rfl) ⟨n1, rfl, n2, (by rw [c3]; rfl), c4, c5, n3, (by rw [c6]; rfl), n4, (by rw [c7]; rfl), n1, trivial⟩

theorem Try.run9_6 (p1 p2 v1 v2 h1 h2 : Int) (nm : ByteArray) (lv cx cy sx sy ex ey rs gr mi sw : Int) (reach q : Int) (ok va : Bool) (c3 : (ok) = true)
    (c4 : (decide (reach < 1)) = false)
    (c5 : (decide (reach ≥ q)) = false)
    (c6 : (va) = false)
    (n1 : Runs Try.ir 11 [] (.bool true))
    (n2 : Runs Try.ir 14 [.agg [.str nm, .int .i64 lv, .int .i64 cx, .int .i64 cy, .int .i64 sx, .int .i64 sy, .int .i64 ex, .int .i64 ey, .int .i64 rs, .int .i64 gr, .int .i64 mi, .int .i64 sw]] (.tup [.int .i64 q, .bool ok]))
    (n3 : Runs Try.ir 35 [.agg [.int .i64 p1, .int .i64 p2, .int .i64 v1, .int .i64 v2, .int .i64 h1, .int .i64 h2]] (.bool va)) : Runs Try.ir 9 [.agg [.int .i64 p1, .int .i64 p2, .int .i64 v1, .int .i64 v2, .int .i64 h1, .int .i64 h2], .agg [.str nm, .int .i64 lv, .int .i64 cx, .int .i64 cy, .int .i64 sx, .int .i64 sy, .int .i64 ex, .int .i64 ey, .int .i64 rs, .int .i64 gr, .int .i64 mi, .int .i64 sw], .int .i64 reach] (.bool true) :=
  Runs.script (r := .bool true) (ps := [Runs Try.ir 11 [] (.bool true), false = false, Runs Try.ir 14 [.agg [.str nm, .int .i64 lv, .int .i64 cx, .int .i64 cy, .int .i64 sx, .int .i64 sy, .int .i64 ex, .int .i64 ey, .int .i64 rs, .int .i64 gr, .int .i64 mi, .int .i64 sw]] (.tup [.int .i64 q, .bool ok]), (!ok) = false, (decide (reach < 1)) = false, (decide (reach ≥ q)) = false, Runs Try.ir 35 [.agg [.int .i64 p1, .int .i64 p2, .int .i64 v1, .int .i64 v2, .int .i64 h1, .int .i64 h2]] (.bool va), (!va) = true, true = true, Runs Try.ir 11 [] (.bool true)]) TAt_holds rfl 400 rfl [.r (.bool true), .b false, .r (.tup [.int .i64 q, .bool ok]), .b false, .b false, .b false, .r (.bool va), .b true, .b true, .r (.bool true)] (by kernel_rfl) ⟨n1, rfl, n2, (by rw [c3]; rfl), c4, c5, n3, (by rw [c6]; rfl), rfl, n1, trivial⟩

theorem Try.run9_7 (p1 p2 v1 v2 h1 h2 : Int) (nm : ByteArray) (lv cx cy sx sy ex ey rs gr mi sw : Int) (reach q : Int) (ok : Bool) (c3 : (ok) = false)
    (n1 : Runs Try.ir 11 [] (.bool true))
    (n2 : Runs Try.ir 14 [.agg [.str nm, .int .i64 lv, .int .i64 cx, .int .i64 cy, .int .i64 sx, .int .i64 sy, .int .i64 ex, .int .i64 ey, .int .i64 rs, .int .i64 gr, .int .i64 mi, .int .i64 sw]] (.tup [.int .i64 q, .bool ok])) : Runs Try.ir 9 [.agg [.int .i64 p1, .int .i64 p2, .int .i64 v1, .int .i64 v2, .int .i64 h1, .int .i64 h2], .agg [.str nm, .int .i64 lv, .int .i64 cx, .int .i64 cy, .int .i64 sx, .int .i64 sy, .int .i64 ex, .int .i64 ey, .int .i64 rs, .int .i64 gr, .int .i64 mi, .int .i64 sw], .int .i64 reach] (.bool true) :=
  Runs.script (r := .bool true) (ps := [Runs Try.ir 11 [] (.bool true), false = false, Runs Try.ir 14 [.agg [.str nm, .int .i64 lv, .int .i64 cx, .int .i64 cy, .int .i64 sx, .int .i64 sy, .int .i64 ex, .int .i64 ey, .int .i64 rs, .int .i64 gr, .int .i64 mi, .int .i64 sw]] (.tup [.int .i64 q, .bool ok]), (!ok) = true, true = true, true = true, true = true, true = true, Runs Try.ir 11 [] (.bool true)]) TAt_holds rfl 400 rfl [.r (.bool true), .b false, .r (.tup [.int .i64 q, .bool ok]), .b true, .b true, .b true, .b true, .b true, .r (.bool true)] (by kernel_rfl) ⟨n1, rfl, n2, (by rw [c3]; rfl), rfl, rfl, rfl, rfl, n1, trivial⟩


theorem peval1 (c x : Int) : peval [c] x = c := by simp [peval]
def MildL (l : PPP) : Prop := (∀ ps ∈ l, ps.length ≤ 1048576 ∧ ∀ p ∈ ps, Mild p) ∧ l.length ≤ 1048576
def ringB (q reach dS dE c1 c2 d : Int) : Bool := decide (dS < reach * reach) || (decide (dE < reach * reach) || (decide (0 < c1) && (decide (0 < c2) && (decide (d < (q + reach) * (q + reach)) && decide ((q - reach) * (q - reach) < d)))))
theorem insN_ring (q reach dS dE c1 c2 d : Int) (hq : 1 ≤ q ∧ q ≤ 262144) (hr : 1 ≤ reach ∧ reach < q) : insN (q, true) reach dS dE c1 c2 d = ringB q reach dS dE c1 c2 d := by
  have b1 := mul_bd (x := reach) (y := reach) (p := 524288) (q := 524288) (by omega) (by omega) (by omega) (by omega)
  have b2 := mul_bd (x := q + reach) (y := q + reach) (p := 524288) (q := 524288) (by omega) (by omega) (by omega) (by omega)
  have b3 := mul_bd (x := q - reach) (y := q - reach) (p := 524288) (q := 524288) (by omega) (by omega) (by omega) (by omega)
  have e1 : decide (reach < 1) = false := by simp; omega
  have e2 : decide (reach ≥ q) = false := by simp; omega
  have e3 : decide (reach > 524288) = false := by simp; omega
  unfold insN discB ringB
  dsimp only
  rw [e1, e2, e3, w64 (n := q + reach) (by omega) (by omega), w64 (n := q - reach) (by omega) (by omega), w64 (by omega) (by omega), w64 (by omega) (by omega), w64 (by omega) (by omega)]
  have f1 : decide (0 < c1) = !decide (c1 ≤ 0) := by rw [Bool.eq_iff_iff]; simp
  have f2 : decide (0 < c2) = !decide (c2 ≤ 0) := by rw [Bool.eq_iff_iff]; simp
  rw [f1, f2]
  dsimp only
  cases decide (dS < reach * reach) <;> cases decide (dE < reach * reach) <;> cases decide (c1 ≤ 0) <;> cases decide (c2 ≤ 0) <;> cases decide (d < (q + reach) * (q + reach)) <;> rfl
theorem in_inB {n x y : Int} (h : inB n x y = true) : In n x y := inB_yes h
theorem radius_in {cx cy sx sy ex ey q : Int} (h : radius cx cy sx sy ex ey = (q, true)) : In 1048576 cx cy ∧ In 1048576 sx sy ∧ In 1048576 ex ey := by
  cases g : (inB 1048576 cx cy && inB 1048576 sx sy && inB 1048576 ex ey) with
  | true =>
    simp only [Bool.and_eq_true] at g
    exact ⟨in_inB g.1.1, in_inB g.1.2, in_inB g.2⟩
  | false =>
    unfold radius at h
    rw [g] at h
    simp at h
theorem radN_pos {a b c q : Int} (h : radN a b c = (q, true)) : 1 ≤ q := by
  unfold radN at h
  repeat' split at h
  all_goals first | (simp at h; done) | skip
  simp only [Prod.mk.injEq, and_true] at h
  rename_i g _ _
  simp at *
  omega
theorem cross_P {as1 bs xs ys : List Rn} {f g u v : Int → Int} {n m K L : Nat} (ha : IsP as1 f n K) (hb : IsP bs g n K) (hx : IsP xs u m L) (hy : IsP ys v m L) (h1 : 2 * max K L + n < 1048000) (h2 : n + m ≤ 1048576) (h3 : K + L + n < 1048576) :
    ∃ ws, IsP ws (fun t => f t * v t - g t * u t) (n + m) (K + L + n + 1) ∧ Runs Try.ir 67 [.sl as1.length (pc as1), .sl bs.length (pc bs), .sl xs.length (pc xs), .sl ys.length (pc ys)] (.fresh 2 ws.length (pc ws)) := by
  obtain ⟨us, i1, r1⟩ := times_P ha hy (by omega) h2
  obtain ⟨vs, i2, r2⟩ := times_P hb hx (by omega) h2
  obtain ⟨ws, i3, r3⟩ := minus_P i1 i2 (by omega) (by omega)
  rw [Nat.max_self, Nat.max_self] at i3
  exact ⟨ws, i3, Try.run67 as1 bs xs ys us vs ws r1 r2 r3⟩
theorem of_P {a : Int} (ha : -9223372036854775808 ≤ a ∧ a ≤ 9223372036854775807) : ∃ ts, IsP ts (peval [a]) 1 2 ∧ Runs Try.ir 64 [.sl 1 [.int .i64 a]] (.fresh 2 ts.length (pc ts)) := by
  obtain ⟨ts, i, r⟩ := ints1_P ha
  exact ⟨ts, i, Try.run64 [a] ts r⟩
theorem arc_at {p1 p2 v1 v2 h1 h2 : Int} {nm : ByteArray} {lv cx cy sx sy ex ey rs gr mi sw R q : Int} (a : In 8388608 p1 p2) (b : In 262144 v1 v2) (c : In 4096 h1 h2)
    (hrad : Runs Try.ir 14 [.agg [.str nm, .int .i64 lv, .int .i64 cx, .int .i64 cy, .int .i64 sx, .int .i64 sy, .int .i64 ex, .int .i64 ey, .int .i64 rs, .int .i64 gr, .int .i64 mi, .int .i64 sw]] (.tup [.int .i64 q, .bool true])) (hc : In 1048576 cx cy) (hs : In 1048576 sx sy) (he : In 1048576 ex ey) (hq : 1 ≤ q ∧ q ≤ 262144) (hR : 1 ≤ R ∧ R < q) :
    ∃ dl : PPP, MildL dl ∧ Runs Try.ir 36 [.agg [.int .i64 p1, .int .i64 p2, .int .i64 v1, .int .i64 v2, .int .i64 h1, .int .i64 h2], .agg [.str nm, .int .i64 lv, .int .i64 cx, .int .i64 cy, .int .i64 sx, .int .i64 sy, .int .i64 ex, .int .i64 ey, .int .i64 rs, .int .i64 gr, .int .i64 mi, .int .i64 sw], .int .i64 R] (.fresh 1 dl.length (ppp dl)) ∧
      ∀ x, atB dl (16 * x) = ringB q R ((peval [p1, v1, h1] x - sx) * (peval [p1, v1, h1] x - sx) + (peval [p2, v2, h2] x - sy) * (peval [p2, v2, h2] x - sy)) ((peval [p1, v1, h1] x - ex) * (peval [p1, v1, h1] x - ex) + (peval [p2, v2, h2] x - ey) * (peval [p2, v2, h2] x - ey))
        ((sx - cx) * (peval [p2, v2, h2] x - cy) - (sy - cy) * (peval [p1, v1, h1] x - cx)) ((peval [p1, v1, h1] x - cx) * (ey - cy) - (peval [p2, v2, h2] x - cy) * (ex - cx)) ((peval [p1, v1, h1] x - cx) * (peval [p1, v1, h1] x - cx) + (peval [p2, v2, h2] x - cy) * (peval [p2, v2, h2] x - cy)) := by
  obtain ⟨ds, i1, _, r1⟩ := Disc_P a b c hs (R := R) (by omega)
  obtain ⟨es, i2, _, r2⟩ := Disc_P a b c he (R := R) (by omega)
  obtain ⟨fx, fy, j1, j2, r3⟩ := polys_P a b c
  have hv : Runs Try.ir 61 [.agg [.int .i64 p1, .int .i64 p2, .int .i64 v1, .int .i64 v2, .int .i64 h1, .int .i64 h2]] (.bool true) := by
    have := Try.run61 p1 p2 v1 v2 h1 h2
    rwa [validF_of a b c] at this
  have hS : In 2097152 (sx - cx) (sy - cy) := hs.sub hc (by decide)
  have hE : In 2097152 (ex - cx) (ey - cy) := he.sub hc (by decide)
  have hsub1 : Runs Try.ir 43 [.agg [.int .i64 sx, .int .i64 sy], .agg [.int .i64 cx, .int .i64 cy]] (.agg [.int .i64 (sx - cx), .int .i64 (sy - cy)]) := by
    have h := TArc_holds 43 [.agg [.int .i64 sx, .int .i64 sy], .agg [.int .i64 cx, .int .i64 cy]] (.agg [.int .i64 (subV sx sy cx cy).1, .int .i64 (subV sx sy cx cy).2]) _ rfl trivial
    rwa [subV_eq (hs.mono (by decide)) (hc.mono (by decide))] at h
  have hsub2 : Runs Try.ir 43 [.agg [.int .i64 ex, .int .i64 ey], .agg [.int .i64 cx, .int .i64 cy]] (.agg [.int .i64 (ex - cx), .int .i64 (ey - cy)]) := by
    have h := TArc_holds 43 [.agg [.int .i64 ex, .int .i64 ey], .agg [.int .i64 cx, .int .i64 cy]] (.agg [.int .i64 (subV ex ey cx cy).1, .int .i64 (subV ex ey cx cy).2]) _ rfl trivial
    rwa [subV_eq (he.mono (by decide)) (hc.mono (by decide))] at h
  have b2 := mul_bd (x := q + R) (y := q + R) (p := 524288) (q := 524288) (by omega) (by omega) (by omega) (by omega)
  have b3 := mul_bd (x := q - R) (y := q - R) (p := 524288) (q := 524288) (by omega) (by omega) (by omega) (by omega)
  have w1 : IntKind.i64.wrap (IntKind.i64.wrap (q + R) * IntKind.i64.wrap (q + R)) = (q + R) * (q + R) := by rw [w64 (n := q + R) (by omega) (by omega), w64 (by omega) (by omega)]
  have w2 : IntKind.i64.wrap (IntKind.i64.wrap (q - R) * IntKind.i64.wrap (q - R)) = (q - R) * (q - R) := by rw [w64 (n := q - R) (by omega) (by omega), w64 (by omega) (by omega)]
  have hc' := hc
  unfold In at hc' hS hE
  obtain ⟨ccx, k1, s1⟩ := of_P (a := cx) (by omega)
  obtain ⟨ccy, k2, s2⟩ := of_P (a := cy) (by omega)
  obtain ⟨ssx, k3, s3⟩ := of_P (a := sx - cx) (by omega)
  obtain ⟨ssy, k4, s4⟩ := of_P (a := sy - cy) (by omega)
  obtain ⟨eex, k5, s5⟩ := of_P (a := ex - cx) (by omega)
  obtain ⟨eey, k6, s6⟩ := of_P (a := ey - cy) (by omega)
  obtain ⟨qp, k7, s7⟩ := of_P (a := (q + R) * (q + R)) (by omega)
  obtain ⟨qm, k8, s8⟩ := of_P (a := (q - R) * (q - R)) (by omega)
  obtain ⟨xs, l1, t1⟩ := minus_P j1 k1 (by decide) (by decide)
  obtain ⟨ys, l2, t2⟩ := minus_P j2 k2 (by decide) (by decide)
  obtain ⟨xx, l3, t3⟩ := times_P l1 l1 (by decide) (by decide)
  obtain ⟨yy, l4, t4⟩ := times_P l2 l2 (by decide) (by decide)
  obtain ⟨sq, l5, t5⟩ := plus_P l3 l4 (by decide) (by decide)
  obtain ⟨c1, l6, t6⟩ := cross_P k3 k4 l1 l2 (by decide) (by decide) (by decide)
  obtain ⟨c2, l7, t7⟩ := cross_P l1 l2 k5 k6 (by decide) (by decide) (by decide)
  obtain ⟨m1, l8, t8⟩ := minus_P k7 l5 (by decide) (by decide)
  obtain ⟨m2, l9, t9⟩ := minus_P l5 k8 (by decide) (by decide)
  refine ⟨[[ds], [es], [c1, c2, m1, m2]], ⟨fun ps hps => ?_, by simp⟩, ?_, fun x => ?_⟩
  · simp only [List.mem_cons, List.not_mem_nil, or_false] at hps
    rcases hps with rfl | rfl | rfl
    · refine ⟨by simp, fun p hp => ?_⟩
      rw [List.mem_singleton.1 hp]; exact i1.mild (by decide) (by decide)
    · refine ⟨by simp, fun p hp => ?_⟩
      rw [List.mem_singleton.1 hp]; exact i2.mild (by decide) (by decide)
    · refine ⟨by simp, fun p hp => ?_⟩
      simp only [List.mem_cons, List.not_mem_nil, or_false] at hp
      rcases hp with rfl | rfl | rfl | rfl
      · exact l6.mild (by decide) (by decide)
      · exact l7.mild (by decide) (by decide)
      · exact l8.mild (by decide) (by decide)
      · exact l9.mild (by decide) (by decide)
  · exact Try.run36 p1 p2 v1 v2 h1 h2 nm lv cx cy sx sy ex ey rs gr mi sw R q _ _ _ _ fx fy ccx ccy ssx ssy eex eey xs ys xx yy sq c1 c2 qp qm m1 m2 ds es (by simp; omega) (by simp; omega) hrad hv r3 s1 t1 s2 t2 hsub1 hsub2 t3 t4 t5 s3 s4 t6 s5 s6 t7 (by rw [w1]; exact s7) t8 (by rw [w2]; exact s8) t9 r1 r2
  · simp only [atB, List.any_cons, List.any_nil, List.all_cons, List.all_nil, Bool.and_true, Bool.or_false, posAt_P i1, posAt_P i2, posAt_P l6, posAt_P l7, posAt_P l8, posAt_P l9, peval1, ringB]
    rw [Bool.eq_iff_iff]
    simp only [Bool.or_eq_true, Bool.and_eq_true, decide_eq_true_eq]
    omega


theorem asamples_run (p1 p2 v1 v2 h1 h2 : Int) (nm : ByteArray) (lv cx cy sx sy ex ey rs gr mi sw R : Int) : Runs Try.ir 9 [.agg [.int .i64 p1, .int .i64 p2, .int .i64 v1, .int .i64 v2, .int .i64 h1, .int .i64 h2], .agg [.str nm, .int .i64 lv, .int .i64 cx, .int .i64 cy, .int .i64 sx, .int .i64 sy, .int .i64 ex, .int .i64 ey, .int .i64 rs, .int .i64 gr, .int .i64 mi, .int .i64 sw], .int .i64 R] (.bool true) := by
  have haw := Try.run11
  have hrad := Try.run14 nm lv cx cy sx sy ex ey rs gr mi sw
  have hva := Try.run35 p1 p2 v1 v2 h1 h2
  have hnp := Try.run12 p1 p2
  obtain ⟨⟨q, ok⟩, er⟩ : ∃ r, radius cx cy sx sy ex ey = r := ⟨_, rfl⟩
  rw [er] at hrad
  dsimp only at hrad
  cases ok with
  | false => exact Try.run9_7 p1 p2 v1 v2 h1 h2 nm lv cx cy sx sy ex ey rs gr mi sw R q false rfl haw hrad
  | true =>
    obtain ⟨ic, is, ie⟩ := radius_in er
    have er2 := er
    rw [radius_eq ic is ie] at er2
    have hq1 := radN_pos er2
    have hq2 := (radN_le ((sx - cx) * (sx - cx) + (sy - cy) * (sy - cy)) ((ex - cx) * (ex - cx) + (ey - cy) * (ey - cy)) ((sx - cx) * (ey - cy) - (sy - cy) * (ex - cx))).1
    rw [er2] at hq2
    dsimp only at hq2
    cases c1 : decide (R < 1) with
    | true => exact Try.run9_1 p1 p2 v1 v2 h1 h2 nm lv cx cy sx sy ex ey rs gr mi sw R q true rfl c1 haw hrad
    | false =>
    cases c2 : decide (R ≥ q) with
    | true => exact Try.run9_2 p1 p2 v1 v2 h1 h2 nm lv cx cy sx sy ex ey rs gr mi sw R q true rfl c1 c2 haw hrad
    | false =>
    have hR : 1 ≤ R ∧ R < q := by simp at c1 c2; omega
    cases cva : valid10 p1 p2 v1 v2 h1 h2 with
    | false =>
      rw [cva] at hva
      exact Try.run9_6 p1 p2 v1 v2 h1 h2 nm lv cx cy sx sy ex ey rs gr mi sw R q true false rfl c1 c2 rfl haw hrad hva
    | true =>
    obtain ⟨a, b, c⟩ := valid10_yes cva
    rw [cva] at hva
    cases cnp : near12 p1 p2 with
    | false =>
      rw [cnp] at hnp
      exact Try.run9_5 p1 p2 v1 v2 h1 h2 nm lv cx cy sx sy ex ey rs gr mi sw R q true true false rfl c1 c2 rfl rfl haw hrad hva hnp
    | true =>
    rw [cnp] at hnp
    have ip := near12_yes cnp
    obtain ⟨cl, mc, rc, ec⟩ := arc_at (rs := rs) (gr := gr) (mi := mi) (sw := sw) (nm := nm) (lv := lv) a b c hrad ic is ie ⟨hq1, hq2⟩ hR
    have hend := Try.run37 p1 p2 v1 v2 h1 h2 hva
    have w1 : IntKind.i64.wrap (IntKind.i64.wrap (p1 + v1) + h1) = p1 + v1 + h1 := by
      unfold In at a b c
      rw [w64 (n := p1 + v1) (by omega) (by omega), w64 (by omega) (by omega)]
    have w2 : IntKind.i64.wrap (IntKind.i64.wrap (p2 + v2) + h2) = p2 + v2 + h2 := by
      unfold In at a b c
      rw [w64 (n := p2 + v2) (by omega) (by omega), w64 (by omega) (by omega)]
    rw [w1, w2] at hend
    have A0 := at_run (l := cl) (j := 0) (by omega) mc.1 mc.2
    have A1 := at_run (l := cl) (j := 16) (by omega) mc.1 mc.2
    have z1 : peval [p1, v1, h1] 0 = p1 := by simp [peval]
    have z2 : peval [p2, v2, h2] 0 = p2 := by simp [peval]
    have o1 : peval [p1, v1, h1] 1 = p1 + v1 + h1 := by simp [peval]; omega
    have o2 : peval [p2, v2, h2] 1 = p2 + v2 + h2 := by simp [peval]; omega
    have ec0 := ec 0
    have ec1 := ec 1
    rw [z1, z2, Int.mul_zero] at ec0
    rw [o1, o2, Int.mul_one] at ec1
    rw [ec0] at A0
    rw [ec1] at A1
    have C0 := Try.run18 p1 p2 nm lv cx cy sx sy ex ey rs gr mi sw R
    rw [inside_eq ip ic is ie, er, insN_ring q R _ _ _ _ _ ⟨hq1, hq2⟩ hR] at C0
    have hne := Try.run12 (p1 + v1 + h1) (p2 + v2 + h2)
    cases cne : near12 (p1 + v1 + h1) (p2 + v2 + h2) with
    | false =>
      rw [cne] at hne
      exact Try.run9_4 p1 p2 v1 v2 h1 h2 nm lv cx cy sx sy ex ey rs gr mi sw R q _ _ _ _ true true true false _ cl (by simp) rfl c1 c2 rfl rfl rfl haw hrad hva hnp rc hend A0 C0 hne
    | true =>
      have iv := near12_yes cne
      rw [cne] at hne
      have C1 := Try.run18 (p1 + v1 + h1) (p2 + v2 + h2) nm lv cx cy sx sy ex ey rs gr mi sw R
      rw [inside_eq iv ic is ie, er, insN_ring q R _ _ _ _ _ ⟨hq1, hq2⟩ hR] at C1
      have k := Try.run9_3 p1 p2 v1 v2 h1 h2 nm lv cx cy sx sy ex ey rs gr mi sw R q _ _ _ _ true true true true _ _ cl (by simp) rfl c1 c2 rfl rfl rfl haw hrad hva hnp rc hend A0 C0 hne A1 C1
      rw [beq_self_eq_true] at k
      exact k

def TAS : Table := TAt
theorem TAS_holds : THolds Try.ir TAS := TAt_holds
end Go.Proofs.Ythakfjlnhldehaa

/- The code of the functions, for the interpreter. -/
import Derived.Test.YtjfppkhaiooloaaGreatDoorAiB
namespace Go.Proofs.YtjfppkhaiooloaaGreatDoor.Cp
open Go.AI Go.AI.C
set_option maxRecDepth 100000
/-- tangram/tangramlaw27.ColourProper -/
noncomputable def a4 : AF := ⟨[.tmp 4],
 (.seq (.ops [q 0 2 (oBox (t 0)),
 q 1 4 (oMv (b false))])
 (.seq (.seq (.ops [c 0 9 24 [],
 q 1 10 (oNot (t 9))])
 (.cond (t 10) (.seq (.ops [q 0 4 (oMv (b false))])
 (.ret))
 (.skip)))
 (.seq (.ops [r 0 12 (oLoadN 2 (t 2)),
 c 1 13 26 [(t 12)],
 q 2 14 (oBuildSlice 1 0 [(.int .i64 0)] [] []),
 q 3 15 (oMv (t 1)),
 h 4 16 (oAppend 1 8 (t 14) (t 15)),
 c 5 17 30 [(t 13), (t 16)],
 q 6 11 (oMv (t 17)),
 q 7 18 (oExtract 0 (t 11)),
 q 8 19 (oExtract 1 (t 11)),
 q 9 5 (oMv (t 18)),
 q 10 6 (oMv (t 19))])
 (.seq (.ops [r 0 21 (oLoadN 2 (t 2)),
 q 1 22 (oMv (t 1)),
 c 2 23 29 [(t 21), (t 22)],
 q 3 20 (oMv (t 23)),
 q 4 24 (oExtract 0 (t 20)),
 q 5 25 (oExtract 1 (t 20)),
 q 6 7 (oMv (t 24)),
 q 7 8 (oMv (t 25))])
 (.seq (.ops [q 0 26 (oMv (t 5)),
 q 1 27 (oMv (t 7)),
 q 2 28 (oEq false .bool (t 26) (t 27)),
 q 3 29 (oMv (t 28)),
 qg 4 30 29 true (oMv (t 6)),
 qg 5 31 29 true (oMv (t 8)),
 qg 6 32 29 true (oArith .eql (t 30) (t 31)),
 q 7 33 (oPick (t 29) (t 32) (b false)),
 q 8 4 (oMv (t 33))])
 (.ret))))))⟩
/-- tangram/tangramlaw27.wakes -/
noncomputable def a24 : AF := ⟨[.tmp 0],
 (.seq (.ops [q 0 0 (oMv (b false))])
 (.seq (.ops [q 0 15 (oBuild [(.int .i64 0), (.int .i64 0)] [(0, 1), (1, 1)] [(i 0), (i 1)]),
 q 1 16 (oBuild [(.int .i64 0), (.int .i64 0)] [(0, 1), (1, 1)] [(i 1), (i 2)]),
 q 2 17 (oBuild [(.int .i64 0), (.int .i64 0)] [(0, 1), (1, 1)] [(i 2), (i 3)]),
 q 3 18 (oBuildSlice 2 3 [(.int .i64 0), (.int .i64 0)] [(0, 2), (2, 2), (4, 2)] [(t 15), (t 16), (t 17)]),
 q 4 19 (oBuild [(.int .i64 0), (.slice none 0 0)] [(0, 1), (1, 1)] [(i 4), (t 18)]),
 q 5 1 (oAlloc [(.int .i64 0), (.slice none 0 0)]),
 h0 6 (oStore 2 (t 1) (t 19))])
 (.seq (.ops [r 0 21 (oLoadN 2 (t 1)),
 q 1 22 (oBuildSlice 1 4 [(.int .i64 0)] [(0, 1), (1, 1), (2, 1), (3, 1)] [(i 0), (i 3), (i 1), (i 2)]),
 c 2 23 34 [(t 21), (t 22)],
 q 3 20 (oMv (t 23)),
 q 4 24 (oExtract 0 (t 20)),
 q 5 25 (oExtract 1 (t 20)),
 q 6 2 (oMv (t 24)),
 q 7 3 (oMv (t 25))])
 (.seq (.ops [r 0 27 (oLoadN 2 (t 1)),
 c 1 28 31 [(t 27)],
 q 2 26 (oMv (t 28)),
 q 3 29 (oExtract 0 (t 26)),
 q 4 30 (oExtract 1 (t 26)),
 q 5 31 (oExtract 2 (t 26)),
 q 6 4 (oMv (t 29)),
 q 7 5 (oMv (t 30)),
 q 8 6 (oMv (t 31))])
 (.seq (.ops [c 0 33 87 [(i 4)],
 c 1 34 25 [(t 33)],
 q 2 32 (oMv (t 34)),
 q 3 35 (oExtract 0 (t 32)),
 q 4 36 (oExtract 1 (t 32)),
 q 5 37 (oExtract 2 (t 32)),
 q 6 7 (oMv (t 35)),
 q 7 8 (oMv (t 36)),
 q 8 9 (oMv (t 37))])
 (.seq (.ops [c 0 39 87 [(i 5)],
 c 1 40 25 [(t 39)],
 q 2 38 (oMv (t 40)),
 q 3 41 (oExtract 0 (t 38)),
 q 4 42 (oExtract 1 (t 38)),
 q 5 43 (oExtract 2 (t 38)),
 q 6 10 (oMv (t 41)),
 q 7 11 (oMv (t 42)),
 q 8 12 (oMv (t 43))])
 (.seq (.ops [r 0 45 (oLoadN 2 (t 1)),
 q 1 46 (oBuildSlice 1 4 [(.int .i64 0)] [(0, 1), (1, 1), (2, 1), (3, 1)] [(i 7), (i (-1)), (i 7), (i 0)]),
 c 2 47 30 [(t 45), (t 46)],
 q 3 44 (oMv (t 47)),
 q 4 48 (oExtract 0 (t 44)),
 q 5 49 (oExtract 1 (t 44)),
 q 6 13 (oMv (t 48)),
 q 7 14 (oMv (t 49))])
 (.seq (.seq (.ops [q 0 50 (oMv (t 3)),
 q 1 51 (oArith .neq (t 50) (i 0)),
 q 2 52 (oMv (t 51)),
 qg 3 53 52 false (oMv (t 6)),
 qg 4 54 52 false (oArith .neq (t 53) (i 0)),
 q 5 55 (oPick (t 52) (b true) (t 54)),
 q 6 56 (oMv (t 55)),
 qg 7 57 56 false (oMv (t 9)),
 qg 8 58 56 false (oArith .neq (t 57) (i 0)),
 q 9 59 (oPick (t 56) (b true) (t 58)),
 q 10 60 (oMv (t 59)),
 qg 11 61 60 false (oMv (t 12)),
 qg 12 62 60 false (oArith .neq (t 61) (i 0)),
 q 13 63 (oPick (t 60) (b true) (t 62)),
 q 14 64 (oMv (t 63)),
 qg 15 65 64 false (oMv (t 14)),
 qg 16 66 64 false (oArith .neq (t 65) (i 0)),
 q 17 67 (oPick (t 64) (b true) (t 66)),
 q 18 68 (oMv (t 67)),
 qg 19 69 68 false (oMv (t 8)),
 qg 20 70 68 false (oNot (t 69)),
 q 21 71 (oPick (t 68) (b true) (t 70)),
 q 22 72 (oMv (t 71)),
 qg 23 73 72 false (oMv (t 11)),
 q 24 74 (oPick (t 72) (b true) (t 73)),
 q 25 75 (oMv (t 74)),
 qg 26 76 75 false (oMv (t 13)),
 qg 27 77 75 false (oNot (t 76)),
 q 28 78 (oPick (t 75) (b true) (t 77)),
 q 29 79 (oMv (t 78)),
 qg 30 80 79 false (oMv (t 5)),
 qg 31 81 79 false (oArith .neq (t 80) (i 1)),
 q 32 82 (oPick (t 79) (b true) (t 81)),
 q 33 83 (oMv (t 82)),
 qg 34 84 83 false (oMv (t 7)),
 rg 35 85 83 false (oLen .slice (t 84)),
 qg 36 86 83 false (oArith .neq (t 85) (i 4)),
 q 37 87 (oPick (t 83) (b true) (t 86))])
 (.cond (t 87) (.seq (.ops [q 0 0 (oMv (b false))])
 (.ret))
 (.skip)))
 (.seq (.ops [q 0 88 (oMv (t 2)),
 q 1 89 (oBuildSlice 1 4 [(.int .i64 0)] [(0, 1), (1, 1), (2, 1), (3, 1)] [(i 0), (i 1), (i 2), (i 0)]),
 c 2 90 33 [(t 88), (t 89)],
 q 3 91 (oMv (t 90)),
 qg 4 92 91 true (oMv (t 4)),
 qg 5 93 91 true (oBuildSlice 1 4 [(.int .i64 0)] [(0, 1), (1, 1), (2, 1), (3, 1)] [(i 0), (i 1), (i 2), (i 3)]),
 ⟨6, some 94, some (91, true), .callF 33 [(t 92), (t 93)], []⟩,
 q 7 95 (oPick (t 91) (t 94) (b false)),
 q 8 0 (oMv (t 95))])
 (.ret))))))))))⟩
/-- tangram/colour.Five -/
noncomputable def a25 : AF := ⟨[.tmp 2, .tmp 3, .tmp 4],
 (.seq (.ops [q 0 1 (oBox (t 0)),
 q 1 2 (oMv (.val (.slice none 0 0))),
 q 2 3 (oMv (b false)),
 q 3 4 (oMv (i 0))])
 (.seq (.ops [r 0 18 (oLoadN 2 (t 1)),
 c 1 19 28 [(t 18)],
 q 2 17 (oMv (t 19)),
 q 3 20 (oExtract 0 (t 17)),
 q 4 21 (oExtract 1 (t 17)),
 q 5 5 (oMv (t 20)),
 q 6 6 (oMv (t 21))])
 (.seq (.seq (.ops [q 0 22 (oMv (t 6)),
 q 1 23 (oArith .neq (t 22) (i 0)),
 q 2 24 (oMv (t 23)),
 qg 3 25 24 false (oMv (t 5)),
 qg 4 26 24 false (oNot (t 25)),
 q 5 27 (oPick (t 24) (b true) (t 26))])
 (.cond (t 27) (.seq (.ops [q 0 28 (oMv (t 6)),
 q 1 2 (oMv (.val (.slice none 0 0))),
 q 2 3 (oMv (b false)),
 q 3 4 (oMv (t 28))])
 (.ret))
 (.skip)))
 (.seq (.ops [r 0 30 (oLoadN 2 (t 1)),
 c 1 31 88 [(t 30)],
 q 2 29 (oMv (t 31)),
 q 3 32 (oExtract 0 (t 29)),
 q 4 33 (oExtract 1 (t 29)),
 q 5 7 (oMv (t 32)),
 q 6 8 (oMv (t 33))])
 (.seq (.ops [r 0 35 (oLoadN 2 (t 1)),
 c 1 36 31 [(t 35)],
 q 2 34 (oMv (t 36)),
 q 3 37 (oExtract 0 (t 34)),
 q 4 38 (oExtract 1 (t 34)),
 q 5 39 (oExtract 2 (t 34)),
 q 6 9 (oMv (t 37)),
 q 7 10 (oMv (t 38)),
 q 8 11 (oMv (t 39))])
 (.seq (.ops [q 0 40 (oFieldAddr 0 (t 1)),
 r 1 41 (oLoad (t 40)),
 q 2 42 (oMkSlice 1 8 [(.int .i64 0)] (t 41) (t 41)),
 q 3 12 (oMv (t 42))])
 (.seq (.seq (.ops [q 0 43 (oMv (t 12)),
 r 1 44 (oLen .slice (t 43)),
 q 2 45 (oMv (i 0))])
 (.block 0 (.loop (.seq (.ops [q 0 46 (oArith .lss (t 45) (t 44))])
 (.seq (.cond (t 46) (.skip)
 (.exit 0))
 (.seq (.block 1 (.seq (.ops [q 0 47 (oMv (t 45)),
 q 1 13 (oMv (t 47))])
 (.ops [q 0 48 (oMv (t 12)),
 q 1 49 (oMv (t 13)),
 q 2 50 (oIdxS 1 (t 48) (t 49)),
 h0 3 (oStore 1 (t 50) (i (-1)))])))
 (.ops [q 0 51 (oArith .add (t 45) (i 1)),
 q 1 45 (oMv (t 51))])))))))
 (.seq (.seq (.ops [q 0 52 (oMv (t 9)),
 r 1 53 (oLen .slice (t 52)),
 q 2 54 (oArith .sub (t 53) (i 1)),
 q 3 14 (oMv (t 54))])
 (.block 2 (.loop (.seq (.seq (.ops [q 0 55 (oMv (t 14)),
 q 1 56 (oArith .geq (t 55) (i 0))])
 (.cond (t 56) (.skip)
 (.exit 2)))
 (.seq (.block 3 (.seq (.ops [q 0 59 (oMv (t 9)),
 q 1 60 (oMv (t 14)),
 q 2 61 (oIdxS 1 (t 59) (t 60)),
 r 3 62 (oLoad (t 61)),
 q 4 15 (oMv (t 62))])
 (.seq (.ops [q 0 63 (oMv (t 7)),
 q 1 64 (oMv (t 12)),
 q 2 65 (oMv (t 15)),
 c 3 66 89 [(t 63), (t 64), (t 65)],
 q 4 16 (oMv (t 66))])
 (.seq (.ops [q 0 67 (oMv (t 16)),
 q 1 68 (oArith .geq (t 67) (i 0))])
 (.cond (t 68) (.ops [q 0 69 (oMv (t 12)),
 q 1 70 (oMv (t 15)),
 q 2 71 (oMv (t 16)),
 q 3 72 (oIdxS 1 (t 69) (t 70)),
 h0 4 (oStore 1 (t 72) (t 71))])
 (.ops [q 0 73 (oMv (t 12)),
 q 1 74 (oMv (t 15)),
 q 2 75 (oMv (t 7)),
 q 3 76 (oMv (t 12)),
 q 4 77 (oMv (t 15)),
 c 5 78 90 [(t 75), (t 76), (t 77)],
 q 6 79 (oIdxS 1 (t 73) (t 74)),
 h0 7 (oStore 1 (t 79) (t 78))]))))))
 (.ops [q 0 57 (oMv (t 14)),
 q 1 58 (oArith .sub (t 57) (i 1)),
 q 2 14 (oMv (t 58))]))))))
 (.seq (.ops [q 0 80 (oMv (t 12)),
 q 1 2 (oMv (t 80)),
 q 2 3 (oMv (b true)),
 q 3 4 (oMv (i 0))])
 (.ret))))))))))⟩
/-- tangram/tangramref03.Copy -/
noncomputable def a26 : AF := ⟨[.cellN 2 2],
 (.seq (.ops [q 0 1 (oBox (t 0)),
 q 1 2 (oAlloc [(.int .i64 0), (.slice none 0 0)])])
 (.seq (.ops [q 0 3 (oMv (.val (.slice none 0 0)))])
 (.seq (.seq (.ops [q 0 4 (oMv (i 0))])
 (.block 0 (.loop (.seq (.seq (.ops [q 0 5 (oMv (t 4)),
 q 1 6 (oFieldAddr 1 (t 1)),
 r 2 7 (oLoad (t 6)),
 r 3 8 (oLen .slice (t 7)),
 q 4 9 (oArith .lss (t 5) (t 8))])
 (.cond (t 9) (.skip)
 (.exit 0)))
 (.seq (.block 1 (.ops [q 0 12 (oMv (t 3)),
 q 1 13 (oFieldAddr 1 (t 1)),
 r 2 14 (oLoad (t 13)),
 q 3 15 (oMv (t 4)),
 q 4 16 (oIdxS 2 (t 14) (t 15)),
 r 5 17 (oLoadN 2 (t 16)),
 q 6 18 (oBuildSlice 2 1 [(.int .i64 0), (.int .i64 0)] [(0, 2)] [(t 17)]),
 h 7 19 (oAppend 2 16 (t 12) (t 18)),
 q 8 3 (oMv (t 19))]))
 (.ops [q 0 10 (oMv (t 4)),
 q 1 11 (oArith .add (t 10) (i 1)),
 q 2 4 (oMv (t 11))]))))))
 (.seq (.ops [q 0 20 (oFieldAddr 0 (t 1)),
 r 1 21 (oLoad (t 20)),
 q 2 22 (oMv (t 3)),
 q 3 23 (oBuild [(.int .i64 0), (.slice none 0 0)] [(0, 1), (1, 1)] [(t 21), (t 22)]),
 h0 4 (oStore 2 (t 2) (t 23))])
 (.ret)))))⟩
/-- tangram/tangramref03.Valid -/
noncomputable def a27 : AF := ⟨[.tmp 2],
 (.seq (.ops [q 0 1 (oBox (t 0)),
 q 1 2 (oMv (b false))])
 (.seq (.seq (.ops [q 0 6 (oFieldAddr 0 (t 1)),
 r 1 7 (oLoad (t 6)),
 q 2 8 (oArith .lss (t 7) (i 0)),
 q 3 9 (oMv (t 8)),
 qg 4 10 9 false (oFieldAddr 0 (t 1)),
 rg 5 11 9 false (oLoad (t 10)),
 qg 6 12 9 false (oArith .gtr (t 11) (i 1048576)),
 q 7 13 (oPick (t 9) (b true) (t 12)),
 q 8 14 (oMv (t 13)),
 qg 9 15 14 false (oFieldAddr 1 (t 1)),
 rg 10 16 14 false (oLoad (t 15)),
 rg 11 17 14 false (oLen .slice (t 16)),
 qg 12 18 14 false (oArith .gtr (t 17) (i 4194304)),
 q 13 19 (oPick (t 14) (b true) (t 18))])
 (.cond (t 19) (.seq (.ops [q 0 2 (oMv (b false))])
 (.ret))
 (.skip)))
 (.seq (.seq (.ops [q 0 3 (oMv (i 0))])
 (.block 0 (.loop (.seq (.seq (.ops [q 0 20 (oMv (t 3)),
 q 1 21 (oFieldAddr 1 (t 1)),
 r 2 22 (oLoad (t 21)),
 r 3 23 (oLen .slice (t 22)),
 q 4 24 (oArith .lss (t 20) (t 23))])
 (.cond (t 24) (.skip)
 (.exit 0)))
 (.seq (.block 1 (.seq (.ops [q 0 27 (oFieldAddr 1 (t 1)),
 r 1 28 (oLoad (t 27)),
 q 2 29 (oMv (t 3)),
 q 3 30 (oIdxS 2 (t 28) (t 29)),
 r 4 31 (oLoadN 2 (t 30)),
 q 5 4 (oAlloc [(.int .i64 0), (.int .i64 0)]),
 h0 6 (oStore 2 (t 4) (t 31))])
 (.seq (.seq (.ops [q 0 32 (oFieldAddr 0 (t 4)),
 r 1 33 (oLoad (t 32)),
 q 2 34 (oArith .lss (t 33) (i 0)),
 q 3 35 (oMv (t 34)),
 qg 4 36 35 false (oFieldAddr 0 (t 4)),
 rg 5 37 35 false (oLoad (t 36)),
 qg 6 38 35 false (oFieldAddr 1 (t 4)),
 rg 7 39 35 false (oLoad (t 38)),
 qg 8 40 35 false (oArith .geq (t 37) (t 39)),
 q 9 41 (oPick (t 35) (b true) (t 40)),
 q 10 42 (oMv (t 41)),
 qg 11 43 42 false (oFieldAddr 1 (t 4)),
 rg 12 44 42 false (oLoad (t 43)),
 qg 13 45 42 false (oFieldAddr 0 (t 1)),
 rg 14 46 42 false (oLoad (t 45)),
 qg 15 47 42 false (oArith .geq (t 44) (t 46)),
 q 16 48 (oPick (t 42) (b true) (t 47))])
 (.cond (t 48) (.seq (.ops [q 0 2 (oMv (b false))])
 (.ret))
 (.skip)))
 (.seq (.ops [q 0 49 (oMv (t 3)),
 q 1 50 (oArith .gtr (t 49) (i 0))])
 (.cond (t 50) (.seq (.drawn [q 0 51 (oFieldAddr 1 (t 1)),
 r 1 52 (oLoad (t 51)),
 q 2 53 (oMv (t 3)),
 q 3 54 (oArith .sub (t 53) (i 1)),
 q 4 55 (oIdxS 2 (t 52) (t 54)),
 r 5 56 (oLoadN 2 (t 55)),
 r 6 57 (oLoadN 2 (t 4)),
 c 7 58 91 [(t 56), (t 57)],
 q 8 5 (oMv (t 58))])
 (.seq (.ops [q 0 59 (oMv (t 5)),
 q 1 60 (oNot (t 59))])
 (.cond (t 60) (.seq (.ops [q 0 2 (oMv (b false))])
 (.ret))
 (.skip))))
 (.skip))))))
 (.ops [q 0 25 (oMv (t 3)),
 q 1 26 (oArith .add (t 25) (i 1)),
 q 2 3 (oMv (t 26))]))))))
 (.seq (.ops [q 0 2 (oMv (b true))])
 (.ret)))))⟩
/-- tangram/lr.Planar -/
noncomputable def a28 : AF := ⟨[.tmp 2, .tmp 3],
 (.seq (.ops [q 0 1 (oBox (t 0)),
 q 1 2 (oMv (b false)),
 q 2 3 (oMv (i 0))])
 (.seq (.ops [r 0 8 (oLoadN 2 (t 1)),
 c 1 9 52 [(t 8)],
 q 2 7 (oMv (t 9)),
 q 3 10 (oExtract 0 (t 7)),
 q 4 11 (oExtract 1 (t 7)),
 q 5 12 (oExtract 2 (t 7)),
 q 6 4 (oMv (t 10)),
 q 7 5 (oMv (t 11)),
 q 8 6 (oMv (t 12))])
 (.seq (.ops [q 0 13 (oMv (t 5)),
 q 1 14 (oMv (t 6)),
 q 2 2 (oMv (t 13)),
 q 3 3 (oMv (t 14))])
 (.ret))))⟩
/-- tangram/tangramref27.Proper -/
noncomputable def a29 : AF := ⟨[.tmp 4, .tmp 5],
 (.seq (.ops [q 0 2 (oBox (t 0)),
 q 1 4 (oMv (b false)),
 q 2 5 (oMv (i 0))])
 (.seq (.ops [r 0 8 (oLoadN 2 (t 2)),
 c 1 9 27 [(t 8)],
 q 2 6 (oMv (t 9))])
 (.seq (.seq (.ops [q 0 10 (oMv (t 6)),
 q 1 11 (oNot (t 10))])
 (.cond (t 11) (.seq (.ops [q 0 4 (oMv (b false)),
 q 1 5 (oMv (i 1))])
 (.ret))
 (.skip)))
 (.seq (.seq (.ops [q 0 12 (oMv (t 1)),
 r 1 13 (oLen .slice (t 12)),
 q 2 14 (oFieldAddr 0 (t 2)),
 r 3 15 (oLoad (t 14)),
 q 4 16 (oArith .neq (t 13) (t 15))])
 (.cond (t 16) (.seq (.ops [q 0 4 (oMv (b false)),
 q 1 5 (oMv (i 270))])
 (.ret))
 (.skip)))
 (.seq (.seq (.ops [q 0 7 (oMv (i 0))])
 (.block 0 (.loop (.seq (.seq (.ops [q 0 17 (oMv (t 7)),
 q 1 18 (oFieldAddr 1 (t 2)),
 r 2 19 (oLoad (t 18)),
 r 3 20 (oLen .slice (t 19)),
 q 4 21 (oArith .lss (t 17) (t 20))])
 (.cond (t 21) (.skip)
 (.exit 0)))
 (.seq (.block 1 (.seq (.drawn [q 0 24 (oMv (t 1)),
 q 1 25 (oFieldAddr 1 (t 2)),
 r 2 26 (oLoad (t 25)),
 q 3 27 (oMv (t 7)),
 q 4 28 (oIdxS 2 (t 26) (t 27)),
 q 5 29 (oFieldAddr 0 (t 28)),
 r 6 30 (oLoad (t 29)),
 q 7 31 (oIdxS 1 (t 24) (t 30)),
 r 8 32 (oLoad (t 31)),
 q 9 33 (oMv (t 1)),
 q 10 34 (oFieldAddr 1 (t 2)),
 r 11 35 (oLoad (t 34)),
 q 12 36 (oMv (t 7)),
 q 13 37 (oIdxS 2 (t 35) (t 36)),
 q 14 38 (oFieldAddr 1 (t 37)),
 r 15 39 (oLoad (t 38)),
 q 16 40 (oIdxS 1 (t 33) (t 39)),
 r 17 41 (oLoad (t 40)),
 q 18 42 (oArith .eql (t 32) (t 41))])
 (.cond (t 42) (.seq (.ops [q 0 4 (oMv (b false)),
 q 1 5 (oMv (i 0))])
 (.ret))
 (.skip))))
 (.ops [q 0 22 (oMv (t 7)),
 q 1 23 (oArith .add (t 22) (i 1)),
 q 2 7 (oMv (t 23))]))))))
 (.seq (.ops [q 0 4 (oMv (b true)),
 q 1 5 (oMv (i 0))])
 (.ret)))))))⟩
/-- tangram/colour.Proper -/
noncomputable def a30 : AF := ⟨[.tmp 4, .tmp 5],
 (.seq (.ops [q 0 2 (oBox (t 0)),
 q 1 4 (oMv (b false)),
 q 2 5 (oMv (i 0))])
 (.seq (.seq (.ops [r 0 8 (oLoadN 2 (t 2)),
 c 1 9 92 [(t 8)],
 q 2 10 (oNot (t 9))])
 (.cond (t 10) (.seq (.ops [q 0 4 (oMv (b false)),
 q 1 5 (oMv (i 1))])
 (.ret))
 (.skip)))
 (.seq (.seq (.ops [q 0 11 (oMv (t 1)),
 r 1 12 (oLen .slice (t 11)),
 q 2 13 (oFieldAddr 0 (t 2)),
 r 3 14 (oLoad (t 13)),
 q 4 15 (oArith .neq (t 12) (t 14))])
 (.cond (t 15) (.seq (.ops [q 0 4 (oMv (b false)),
 q 1 5 (oMv (i 270))])
 (.ret))
 (.skip)))
 (.seq (.seq (.ops [q 0 16 (oFieldAddr 1 (t 2)),
 r 1 17 (oLoad (t 16)),
 r 2 18 (oLen .slice (t 17)),
 q 3 19 (oMv (i 0))])
 (.block 0 (.loop (.seq (.ops [q 0 20 (oArith .lss (t 19) (t 18))])
 (.seq (.cond (t 20) (.skip)
 (.exit 0))
 (.seq (.block 1 (.seq (.ops [q 0 21 (oIdxS 2 (t 17) (t 19)),
 r 1 22 (oLoadN 2 (t 21)),
 q 2 7 (oAlloc [(.int .i64 0), (.int .i64 0)]),
 h0 3 (oStore 2 (t 7) (t 22))])
 (.seq (.drawn [q 0 23 (oMv (t 1)),
 q 1 24 (oFieldAddr 0 (t 7)),
 r 2 25 (oLoad (t 24)),
 q 3 26 (oIdxS 1 (t 23) (t 25)),
 r 4 27 (oLoad (t 26)),
 q 5 28 (oMv (t 1)),
 q 6 29 (oFieldAddr 1 (t 7)),
 r 7 30 (oLoad (t 29)),
 q 8 31 (oIdxS 1 (t 28) (t 30)),
 r 9 32 (oLoad (t 31)),
 q 10 33 (oArith .eql (t 27) (t 32))])
 (.cond (t 33) (.seq (.ops [q 0 4 (oMv (b false)),
 q 1 5 (oMv (i 0))])
 (.ret))
 (.skip)))))
 (.ops [q 0 34 (oArith .add (t 19) (i 1)),
 q 1 19 (oMv (t 34))])))))))
 (.seq (.ops [q 0 4 (oMv (b true)),
 q 1 5 (oMv (i 0))])
 (.ret))))))⟩
/-- tangram/colour.Peel -/
noncomputable def a31 : AF := ⟨[.tmp 2, .tmp 3, .tmp 4],
 (.seq (.ops [q 0 1 (oBox (t 0)),
 q 1 2 (oMv (.val (.slice none 0 0))),
 q 2 3 (oMv (i 0)),
 q 3 4 (oMv (i 0))])
 (.seq (.ops [r 0 17 (oLoadN 2 (t 1)),
 c 1 18 88 [(t 17)],
 q 2 16 (oMv (t 18)),
 q 3 19 (oExtract 0 (t 16)),
 q 4 20 (oExtract 1 (t 16)),
 q 5 5 (oAlloc [(.pointer none)]),
 h0 6 (oStore 1 (t 5) (t 19)),
 q 7 6 (oMv (t 20))])
 (.seq (.seq (.ops [q 0 21 (oMv (t 6)),
 q 1 22 (oArith .neq (t 21) (i 0))])
 (.cond (t 22) (.seq (.ops [q 0 23 (oMv (t 6)),
 q 1 2 (oMv (.val (.slice none 0 0))),
 q 2 3 (oMv (i 0)),
 q 3 4 (oMv (t 23))])
 (.ret))
 (.skip)))
 (.seq (.ops [q 0 24 (oFieldAddr 0 (t 1)),
 r 1 25 (oLoad (t 24)),
 q 2 26 (oMkSlice 1 8 [(.int .i64 0)] (t 25) (t 25)),
 q 3 7 (oAlloc [(.slice none 0 0)]),
 h0 4 (oStore 1 (t 7) (t 26))])
 (.seq (.ops [q 0 27 (oFieldAddr 0 (t 1)),
 r 1 28 (oLoad (t 27)),
 q 2 29 (oMkSlice 1 1 [(.bool false)] (t 28) (t 28)),
 q 3 8 (oAlloc [(.slice none 0 0)]),
 h0 4 (oStore 1 (t 8) (t 29))])
 (.seq (.ops [q 0 30 (oFieldAddr 0 (t 1)),
 r 1 31 (oLoad (t 30)),
 q 2 32 (oMkSlice 2 16 [(.int .i64 0), (.int .i64 0)] (t 31) (t 31)),
 q 3 9 (oAlloc [(.slice none 0 0)]),
 h0 4 (oStore 1 (t 9) (t 32))])
 (.seq (.seq (.ops [q 0 33 (oFieldAddr 0 (t 1)),
 r 1 34 (oLoad (t 33)),
 q 2 35 (oMv (i 0))])
 (.block 0 (.loop (.seq (.ops [q 0 36 (oArith .lss (t 35) (t 34))])
 (.seq (.cond (t 36) (.skip)
 (.exit 0))
 (.seq (.block 1 (.seq (.ops [q 0 37 (oMv (t 35)),
 q 1 10 (oMv (t 37))])
 (.seq (.drawn [r 0 38 (oLoad (t 7)),
 q 1 39 (oMv (t 10)),
 r 2 40 (oLoad (t 5)),
 q 3 41 (oMv (t 10)),
 ⟨4, some 42, none, .callF 93 [(t 40), (t 41)], [0]⟩,
 q 5 43 (oIdxS 1 (t 38) (t 39)),
 h0 6 (oStore 1 (t 43) (t 42))])
 (.drawn [r 0 44 (oLoad (t 9)),
 q 1 45 (oMv (t 10)),
 r 2 46 (oLoad (t 7)),
 q 3 47 (oMv (t 10)),
 q 4 48 (oIdxS 1 (t 46) (t 47)),
 r 5 49 (oLoad (t 48)),
 q 6 50 (oMv (t 10)),
 q 7 51 (oBuild [(.int .i64 0), (.int .i64 0)] [(0, 1), (1, 1)] [(t 49), (t 50)]),
 q 8 52 (oIdxS 2 (t 44) (t 45)),
 h0 9 (oStore 2 (t 52) (t 51))]))))
 (.ops [q 0 53 (oArith .add (t 35) (i 1)),
 q 1 35 (oMv (t 53))])))))))
 (.seq (.ops [q 0 54 (oIface 114 (t 9)),
 c 1 55 94 [(t 54)]])
 (.seq (.ops [q 0 11 (oMv (.val (.slice none 0 0)))])
 (.seq (.ops [q 0 12 (oMv (i 0))])
 (.seq (.block 2 (.loop (.seq (.seq (.ops [r 0 56 (oLoad (t 9)),
 c 1 57 95 [(t 56)],
 q 2 58 (oArith .gtr (t 57) (i 0))])
 (.cond (t 58) (.skip)
 (.exit 2)))
 (.block 3 (.seq (.ops [q 0 59 (oIface 114 (t 9)),
 c 1 60 96 [(t 59)],
 q 2 61 (oAssert 112 false (.agg #[(.int .i64 0), (.int .i64 0)]) (t 60)),
 q 3 13 (oAlloc [(.int .i64 0), (.int .i64 0)]),
 h0 4 (oStore 2 (t 13) (t 61))])
 (.seq (.seq (.drawn [r 0 62 (oLoad (t 8)),
 q 1 63 (oFieldAddr 1 (t 13)),
 r 2 64 (oLoad (t 63)),
 q 3 65 (oIdxS 1 (t 62) (t 64)),
 r 4 66 (oLoad (t 65)),
 q 5 67 (oMv (t 66)),
 qg 6 68 67 false (oFieldAddr 0 (t 13)),
 rg 7 69 67 false (oLoad (t 68)),
 rg 8 70 67 false (oLoad (t 7)),
 qg 9 71 67 false (oFieldAddr 1 (t 13)),
 rg 10 72 67 false (oLoad (t 71)),
 qg 11 73 67 false (oIdxS 1 (t 70) (t 72)),
 rg 12 74 67 false (oLoad (t 73)),
 qg 13 75 67 false (oArith .neq (t 69) (t 74)),
 q 14 76 (oPick (t 67) (b true) (t 75))])
 (.cond (t 76) (.exit 3)
 (.skip)))
 (.seq (.ops [r 0 77 (oLoad (t 8)),
 q 1 78 (oFieldAddr 1 (t 13)),
 r 2 79 (oLoad (t 78)),
 q 3 80 (oIdxS 1 (t 77) (t 79)),
 h0 4 (oStore 1 (t 80) (b true))])
 (.seq (.ops [q 0 81 (oMv (t 11)),
 q 1 82 (oFieldAddr 1 (t 13)),
 r 2 83 (oLoad (t 82)),
 q 3 84 (oBuildSlice 1 1 [(.int .i64 0)] [(0, 1)] [(t 83)]),
 h 4 85 (oAppend 1 8 (t 81) (t 84)),
 q 5 11 (oMv (t 85))])
 (.seq (.ops [q 0 86 (oMv (t 12)),
 q 1 87 (oFieldAddr 0 (t 13)),
 r 2 88 (oLoad (t 87)),
 q 3 89 (oMax (t 86) [(t 88)]),
 q 4 12 (oMv (t 89))])
 (.seq (.ops [r 0 90 (oLoad (t 5)),
 q 1 91 (oFieldAddr 1 (t 13)),
 r 2 92 (oLoad (t 91)),
 c 3 93 97 [(t 90), (t 92)]])
 (.block 4 (.range (t 93) 31093))))))))))))
 (.seq (.ops [q 0 118 (oMv (t 11)),
 q 1 119 (oMv (t 12)),
 q 2 2 (oMv (t 118)),
 q 3 3 (oMv (t 119)),
 q 4 4 (oMv (i 0))])
 (.ret)))))))))))))⟩
noncomputable def l31093 : AL := ⟨[94],
 (.ops [q 0 14 (oMv (t 94))]),
 (.block 5 (.seq (.ops [r 0 95 (oLoad (t 5)),
 q 1 96 (oMv (t 14)),
 c 2 97 98 [(t 95), (t 96)],
 q 3 15 (oMv (t 97))])
 (.seq (.ops [r 0 98 (oLoad (t 8)),
 q 1 99 (oMv (t 15)),
 q 2 100 (oIdxS 1 (t 98) (t 99)),
 r 3 101 (oLoad (t 100)),
 q 4 102 (oNot (t 101))])
 (.cond (t 102) (.seq (.ops [r 0 103 (oLoad (t 7)),
 q 1 104 (oMv (t 15)),
 q 2 105 (oIdxS 1 (t 103) (t 104)),
 r 3 106 (oLoad (t 105)),
 q 4 107 (oArith .sub (t 106) (i 1)),
 q 5 108 (oIdxS 1 (t 103) (t 104)),
 h0 6 (oStore 1 (t 108) (t 107))])
 (.ops [q 0 109 (oIface 114 (t 9)),
 r 1 110 (oLoad (t 7)),
 q 2 111 (oMv (t 15)),
 q 3 112 (oIdxS 1 (t 110) (t 111)),
 r 4 113 (oLoad (t 112)),
 q 5 114 (oMv (t 15)),
 q 6 115 (oBuild [(.int .i64 0), (.int .i64 0)] [(0, 1), (1, 1)] [(t 113), (t 114)]),
 q 7 116 (oIface 112 (t 115)),
 c 8 117 99 [(t 109), (t 116)]]))
 (.skip)))))⟩
/-- tangram/tangramref03.SameInts -/
noncomputable def a33 : AF := ⟨[.tmp 4],
 (.seq (.ops [q 0 4 (oMv (b false))])
 (.seq (.seq (.ops [q 0 6 (oMv (t 0)),
 r 1 7 (oLen .slice (t 6)),
 q 2 8 (oMv (t 1)),
 r 3 9 (oLen .slice (t 8)),
 q 4 10 (oArith .neq (t 7) (t 9))])
 (.cond (t 10) (.seq (.ops [q 0 4 (oMv (b false))])
 (.ret))
 (.skip)))
 (.seq (.seq (.ops [q 0 5 (oMv (i 0))])
 (.block 0 (.loop (.seq (.seq (.ops [q 0 11 (oMv (t 5)),
 q 1 12 (oMv (t 0)),
 r 2 13 (oLen .slice (t 12)),
 q 3 14 (oArith .lss (t 11) (t 13))])
 (.cond (t 14) (.skip)
 (.exit 0)))
 (.seq (.block 1 (.seq (.drawn [q 0 17 (oMv (t 0)),
 q 1 18 (oMv (t 5)),
 q 2 19 (oIdxS 1 (t 17) (t 18)),
 r 3 20 (oLoad (t 19)),
 q 4 21 (oMv (t 1)),
 q 5 22 (oMv (t 5)),
 q 6 23 (oIdxS 1 (t 21) (t 22)),
 r 7 24 (oLoad (t 23)),
 q 8 25 (oArith .neq (t 20) (t 24))])
 (.cond (t 25) (.seq (.ops [q 0 4 (oMv (b false))])
 (.ret))
 (.skip))))
 (.ops [q 0 15 (oMv (t 5)),
 q 1 16 (oArith .add (t 15) (i 1)),
 q 2 5 (oMv (t 16))]))))))
 (.seq (.ops [q 0 4 (oMv (b true))])
 (.ret)))))⟩
/-- tangram/colour.Greedy -/
noncomputable def a34 : AF := ⟨[.tmp 4, .tmp 5],
 (.seq (.ops [q 0 2 (oBox (t 0)),
 q 1 4 (oMv (.val (.slice none 0 0))),
 q 2 5 (oMv (i 0))])
 (.seq (.ops [r 0 19 (oLoadN 2 (t 2)),
 c 1 20 88 [(t 19)],
 q 2 18 (oMv (t 20)),
 q 3 21 (oExtract 0 (t 18)),
 q 4 22 (oExtract 1 (t 18)),
 q 5 6 (oAlloc [(.pointer none)]),
 h0 6 (oStore 1 (t 6) (t 21)),
 q 7 7 (oMv (t 22))])
 (.seq (.seq (.ops [q 0 23 (oMv (t 7)),
 q 1 24 (oArith .neq (t 23) (i 0))])
 (.cond (t 24) (.seq (.ops [q 0 25 (oMv (t 7)),
 q 1 4 (oMv (.val (.slice none 0 0))),
 q 2 5 (oMv (t 25))])
 (.ret))
 (.skip)))
 (.seq (.ops [q 0 26 (oFieldAddr 0 (t 2)),
 r 1 27 (oLoad (t 26)),
 q 2 28 (oMkSlice 1 1 [(.bool false)] (t 27) (t 27)),
 q 3 8 (oMv (t 28))])
 (.seq (.seq (.ops [q 0 29 (oMv (t 1)),
 r 1 30 (oLen .slice (t 29)),
 q 2 31 (oMv (i 0))])
 (.block 0 (.loop (.seq (.ops [q 0 32 (oArith .lss (t 31) (t 30))])
 (.seq (.cond (t 32) (.skip)
 (.exit 0))
 (.seq (.block 1 (.seq (.ops [q 0 33 (oIdxS 1 (t 29) (t 31)),
 r 1 34 (oLoad (t 33)),
 q 2 10 (oMv (t 34))])
 (.seq (.seq (.ops [q 0 35 (oMv (t 10)),
 q 1 36 (oArith .lss (t 35) (i 0)),
 q 2 37 (oMv (t 36)),
 qg 3 38 37 false (oMv (t 10)),
 qg 4 39 37 false (oFieldAddr 0 (t 2)),
 rg 5 40 37 false (oLoad (t 39)),
 qg 6 41 37 false (oArith .geq (t 38) (t 40)),
 q 7 42 (oPick (t 37) (b true) (t 41)),
 q 8 43 (oMv (t 42)),
 qg 9 44 43 false (oMv (t 8)),
 qg 10 45 43 false (oMv (t 10)),
 qg 11 46 43 false (oIdxS 1 (t 44) (t 45)),
 rg 12 47 43 false (oLoad (t 46)),
 q 13 48 (oPick (t 43) (b true) (t 47))])
 (.cond (t 48) (.seq (.ops [q 0 4 (oMv (.val (.slice none 0 0))),
 q 1 5 (oMv (i 2))])
 (.ret))
 (.skip)))
 (.ops [q 0 49 (oMv (t 8)),
 q 1 50 (oMv (t 10)),
 q 2 51 (oIdxS 1 (t 49) (t 50)),
 h0 3 (oStore 1 (t 51) (b true))]))))
 (.ops [q 0 52 (oArith .add (t 31) (i 1)),
 q 1 31 (oMv (t 52))])))))))
 (.seq (.ops [q 0 53 (oFieldAddr 0 (t 2)),
 r 1 54 (oLoad (t 53)),
 q 2 55 (oMkSlice 1 8 [(.int .i64 0)] (t 54) (t 54)),
 q 3 11 (oAlloc [(.slice none 0 0)]),
 h0 4 (oStore 1 (t 11) (t 55))])
 (.seq (.seq (.ops [r 0 56 (oLoad (t 11)),
 r 1 57 (oLen .slice (t 56)),
 q 2 58 (oMv (i 0))])
 (.block 2 (.loop (.seq (.ops [q 0 59 (oArith .lss (t 58) (t 57))])
 (.seq (.cond (t 59) (.skip)
 (.exit 2))
 (.seq (.block 3 (.seq (.ops [q 0 60 (oMv (t 58)),
 q 1 12 (oMv (t 60))])
 (.ops [r 0 61 (oLoad (t 11)),
 q 1 62 (oMv (t 12)),
 q 2 63 (oIdxS 1 (t 61) (t 62)),
 h0 3 (oStore 1 (t 63) (i (-1)))])))
 (.ops [q 0 64 (oArith .add (t 58) (i 1)),
 q 1 58 (oMv (t 64))])))))))
 (.seq (.seq (.ops [q 0 65 (oMv (t 1)),
 r 1 66 (oLen .slice (t 65)),
 q 2 67 (oMv (i 0))])
 (.block 4 (.loop (.seq (.ops [q 0 68 (oArith .lss (t 67) (t 66))])
 (.seq (.cond (t 68) (.skip)
 (.exit 4))
 (.seq (.block 5 (.seq (.ops [q 0 69 (oIdxS 1 (t 65) (t 67)),
 r 1 70 (oLoad (t 69)),
 q 2 14 (oMv (t 70))])
 (.seq (.ops [q 0 71 (oMkMap),
 q 1 15 (oAlloc [(.map none)]),
 h0 2 (oStore 1 (t 15) (t 71))])
 (.seq (.seq (.ops [r 0 72 (oLoad (t 6)),
 q 1 73 (oMv (t 14)),
 c 2 74 97 [(t 72), (t 73)]])
 (.block 6 (.range (t 74) 34074)))
 (.seq (.ops [q 0 17 (oMv (i 0))])
 (.seq (.block 8 (.loop (.seq (.seq (.ops [r 0 83 (oLoad (t 15)),
 q 1 84 (oMv (t 17)),
 r 2 85 (oLookup (.int .i64) false (.bool false) (t 83) (t 84))])
 (.cond (t 85) (.skip)
 (.exit 8)))
 (.block 9 (.ops [q 0 86 (oMv (t 17)),
 q 1 87 (oArith .add (t 86) (i 1)),
 q 2 17 (oMv (t 87))])))))
 (.ops [r 0 88 (oLoad (t 11)),
 q 1 89 (oMv (t 14)),
 q 2 90 (oMv (t 17)),
 q 3 91 (oIdxS 1 (t 88) (t 89)),
 h0 4 (oStore 1 (t 91) (t 90))])))))))
 (.ops [q 0 92 (oArith .add (t 67) (i 1)),
 q 1 67 (oMv (t 92))])))))))
 (.seq (.ops [r 0 93 (oLoad (t 11)),
 q 1 4 (oMv (t 93)),
 q 2 5 (oMv (i 0))])
 (.ret))))))))))⟩
noncomputable def l34074 : AL := ⟨[75],
 (.ops [q 0 16 (oMv (t 75))]),
 (.block 7 (.drawn [r 0 76 (oLoad (t 15)),
 r 1 77 (oLoad (t 11)),
 r 2 78 (oLoad (t 6)),
 q 3 79 (oMv (t 16)),
 ⟨4, some 80, none, .callF 98 [(t 78), (t 79)], [0, 1]⟩,
 q 5 81 (oIdxS 1 (t 77) (t 80)),
 r 6 82 (oLoad (t 81)),
 h0 7 (oUpdate (.int .i64) (t 76) (t 82) (b true))]))⟩
/-- tangram/lr.Test -/
noncomputable def a52 : AF := ⟨[.tmp 2, .tmp 3, .tmp 4],
 (.seq (.ops [q 0 1 (oBox (t 0)),
 q 1 2 (oMv (.val (.slice none 0 0))),
 q 2 3 (oMv (b false)),
 q 3 4 (oMv (i 0))])
 (.seq (.ops [r 0 13 (oLoadN 2 (t 1)),
 c 1 14 106 [(t 13)],
 q 2 12 (oMv (t 14)),
 q 3 15 (oExtract 0 (t 12)),
 q 4 16 (oExtract 1 (t 12)),
 q 5 5 (oAlloc [(.slice none 0 0), (.slice none 0 0), (.slice none 0 0), (.slice none 0 0)]),
 h0 6 (oStore 4 (t 5) (t 15)),
 q 7 6 (oMv (t 16))])
 (.seq (.seq (.ops [q 0 17 (oMv (t 6)),
 q 1 18 (oArith .neq (t 17) (i 0))])
 (.cond (t 18) (.seq (.ops [q 0 19 (oMv (t 6)),
 q 1 2 (oMv (.val (.slice none 0 0))),
 q 2 3 (oMv (b false)),
 q 3 4 (oMv (t 19))])
 (.ret))
 (.skip)))
 (.seq (.seq (.ops [q 0 20 (oFieldAddr 0 (t 1)),
 r 1 21 (oLoad (t 20)),
 q 2 22 (oArith .geq (t 21) (i 3)),
 q 3 23 (oMv (t 22)),
 qg 4 24 23 true (oFieldAddr 1 (t 1)),
 rg 5 25 23 true (oLoad (t 24)),
 rg 6 26 23 true (oLen .slice (t 25)),
 qg 7 27 23 true (oFieldAddr 0 (t 1)),
 rg 8 28 23 true (oLoad (t 27)),
 qg 9 29 23 true (oArith .mul (i 3) (t 28)),
 qg 10 30 23 true (oArith .sub (t 29) (i 6)),
 qg 11 31 23 true (oArith .gtr (t 26) (t 30)),
 q 12 32 (oPick (t 23) (t 31) (b false))])
 (.cond (t 32) (.seq (.ops [q 0 2 (oMv (.val (.slice none 0 0))),
 q 1 3 (oMv (b false)),
 q 2 4 (oMv (i 0))])
 (.ret))
 (.skip)))
 (.seq (.ops [r 0 34 (oLoadN 2 (t 1)),
 r 1 35 (oLoadN 4 (t 5)),
 c 2 36 113 [(t 34), (t 35)],
 q 3 33 (oMv (t 36)),
 q 4 37 (oExtract 0 (t 33)),
 q 5 38 (oExtract 1 (t 33)),
 q 6 7 (oAlloc [(.slice none 0 0), (.slice none 0 0), (.slice none 0 0), (.slice none 0 0)]),
 h0 7 (oStore 4 (t 7) (t 37)),
 q 8 6 (oMv (t 38))])
 (.seq (.seq (.ops [q 0 39 (oMv (t 6)),
 q 1 40 (oArith .neq (t 39) (i 0))])
 (.cond (t 40) (.seq (.ops [q 0 41 (oMv (t 6)),
 q 1 2 (oMv (.val (.slice none 0 0))),
 q 2 3 (oMv (b false)),
 q 3 4 (oMv (t 41))])
 (.ret))
 (.skip)))
 (.seq (.ops [q 0 42 (oFieldAddr 1 (t 1)),
 r 1 43 (oLoad (t 42)),
 r 2 44 (oLen .slice (t 43)),
 q 3 8 (oMv (t 44))])
 (.seq (.drawn [r 0 45 (oLoadN 2 (t 1)),
 r 1 46 (oLoadN 4 (t 5)),
 r 2 47 (oLoadN 4 (t 7)),
 q 3 48 (oMv (t 8)),
 q 4 49 (oMkSlice 1 8 [(.int .i64 0)] (t 48) (t 48)),
 q 5 50 (oMv (t 8)),
 q 6 51 (oMkSlice 1 8 [(.int .i64 0)] (t 50) (t 50)),
 q 7 52 (oMv (t 8)),
 q 8 53 (oMkSlice 1 8 [(.int .i64 0)] (t 52) (t 52)),
 q 9 54 (oMv (t 8)),
 q 10 55 (oMkSlice 1 8 [(.int .i64 0)] (t 54) (t 54)),
 q 11 56 (oBuild [(.int .i64 0), (.slice none 0 0), (.slice none 0 0), (.slice none 0 0), (.slice none 0 0), (.slice none 0 0), (.slice none 0 0), (.slice none 0 0), (.slice none 0 0), (.slice none 0 0), (.slice none 0 0), (.slice none 0 0), (.slice none 0 0), (.slice none 0 0), (.slice none 0 0)] [(0, 2), (2, 4), (6, 4), (11, 1), (12, 1), (13, 1), (14, 1)] [(t 45), (t 46), (t 47), (t 49), (t 51), (t 53), (t 55)]),
 q 12 57 (oBox (t 56)),
 q 13 9 (oMv (t 57))])
 (.seq (.seq (.ops [q 0 58 (oMv (t 8)),
 q 1 59 (oMv (i 0))])
 (.block 0 (.loop (.seq (.ops [q 0 60 (oArith .lss (t 59) (t 58))])
 (.seq (.cond (t 60) (.skip)
 (.exit 0))
 (.seq (.block 1 (.seq (.ops [q 0 61 (oMv (t 59)),
 q 1 10 (oMv (t 61))])
 (.drawn [q 0 62 (oMv (t 9)),
 q 1 63 (oNilCheck (t 62)),
 q 2 64 (oFieldAddr 11 (t 63)),
 r 3 65 (oLoad (t 64)),
 q 4 66 (oMv (t 10)),
 q 5 67 (oMv (t 9)),
 q 6 68 (oNilCheck (t 67)),
 q 7 69 (oFieldAddr 12 (t 68)),
 r 8 70 (oLoad (t 69)),
 q 9 71 (oMv (t 10)),
 q 10 72 (oMv (t 9)),
 q 11 73 (oNilCheck (t 72)),
 q 12 74 (oFieldAddr 14 (t 73)),
 r 13 75 (oLoad (t 74)),
 q 14 76 (oMv (t 10)),
 q 15 77 (oIdxS 1 (t 65) (t 66)),
 h0 16 (oStore 1 (t 77) (i (-1))),
 q 17 78 (oIdxS 1 (t 70) (t 71)),
 h0 18 (oStore 1 (t 78) (i 1)),
 q 19 79 (oIdxS 1 (t 75) (t 76)),
 h0 20 (oStore 1 (t 79) (i (-1)))])))
 (.ops [q 0 80 (oArith .add (t 59) (i 1)),
 q 1 59 (oMv (t 80))])))))))
 (.seq (.seq (.ops [q 0 81 (oFieldAddr 0 (t 1)),
 r 1 82 (oLoad (t 81)),
 q 2 83 (oMv (i 0))])
 (.block 2 (.loop (.seq (.ops [q 0 84 (oArith .lss (t 83) (t 82))])
 (.seq (.cond (t 84) (.skip)
 (.exit 2))
 (.seq (.block 3 (.seq (.ops [q 0 85 (oMv (t 83)),
 q 1 11 (oMv (t 85))])
 (.seq (.ops [q 0 86 (oFieldAddr 0 (t 5)),
 r 1 87 (oLoad (t 86)),
 q 2 88 (oMv (t 11)),
 q 3 89 (oIdxS 1 (t 87) (t 88)),
 r 4 90 (oLoad (t 89)),
 q 5 91 (oArith .lss (t 90) (i 0)),
 q 6 92 (oMv (t 91)),
 qg 7 93 92 true (oMv (t 9)),
 qg 8 94 92 true (oMv (t 11)),
 ⟨9, some 95, some (92, true), .callF 114 [(t 93), (t 94)], []⟩,
 qg 10 96 92 true (oNot (t 95)),
 q 11 97 (oPick (t 92) (t 96) (b false))])
 (.cond (t 97) (.seq (.ops [q 0 2 (oMv (.val (.slice none 0 0))),
 q 1 3 (oMv (b false)),
 q 2 4 (oMv (i 0))])
 (.ret))
 (.skip)))))
 (.ops [q 0 98 (oArith .add (t 83) (i 1)),
 q 1 83 (oMv (t 98))])))))))
 (.seq (.ops [q 0 99 (oMv (t 9)),
 c 1 100 115 [(t 99)],
 q 2 2 (oMv (t 100)),
 q 3 3 (oMv (b true)),
 q 4 4 (oMv (i 0))])
 (.ret))))))))))))⟩
/-- tangram/tangramlaw27.complete -/
noncomputable def a87 : AF := ⟨[.cellN 2 2],
 (.seq (.ops [q 0 2 (oAlloc [(.int .i64 0), (.slice none 0 0)])])
 (.seq (.ops [q 0 6 (oMv (t 0)),
 q 1 7 (oBuild [(.int .i64 0), (.slice none 0 0)] [(0, 1)] [(t 6)]),
 q 2 3 (oAlloc [(.int .i64 0), (.slice none 0 0)]),
 h0 3 (oStore 2 (t 3) (t 7))])
 (.seq (.seq (.ops [q 0 4 (oMv (i 0))])
 (.block 0 (.loop (.seq (.seq (.ops [q 0 8 (oMv (t 4)),
 q 1 9 (oMv (t 0)),
 q 2 10 (oArith .lss (t 8) (t 9))])
 (.cond (t 10) (.skip)
 (.exit 0)))
 (.seq (.block 1 (.seq (.ops [q 0 13 (oMv (t 4)),
 q 1 14 (oArith .add (t 13) (i 1)),
 q 2 5 (oMv (t 14))])
 (.block 2 (.loop (.seq (.seq (.ops [q 0 15 (oMv (t 5)),
 q 1 16 (oMv (t 0)),
 q 2 17 (oArith .lss (t 15) (t 16))])
 (.cond (t 17) (.skip)
 (.exit 2)))
 (.seq (.block 3 (.ops [q 0 20 (oFieldAddr 1 (t 3)),
 r 1 21 (oLoad (t 20)),
 q 2 22 (oMv (t 4)),
 q 3 23 (oMv (t 5)),
 q 4 24 (oBuild [(.int .i64 0), (.int .i64 0)] [(0, 1), (1, 1)] [(t 22), (t 23)]),
 q 5 25 (oBuildSlice 2 1 [(.int .i64 0), (.int .i64 0)] [(0, 2)] [(t 24)]),
 h 6 26 (oAppend 2 16 (t 21) (t 25)),
 q 7 27 (oFieldAddr 1 (t 3)),
 h0 8 (oStore 1 (t 27) (t 26))]))
 (.ops [q 0 18 (oMv (t 5)),
 q 1 19 (oArith .add (t 18) (i 1)),
 q 2 5 (oMv (t 19))])))))))
 (.ops [q 0 11 (oMv (t 4)),
 q 1 12 (oArith .add (t 11) (i 1)),
 q 2 4 (oMv (t 12))]))))))
 (.seq (.ops [r 0 28 (oLoadN 2 (t 3)),
 h0 1 (oStore 2 (t 2) (t 28))])
 (.ret)))))⟩
/-- tangram/csr.New -/
noncomputable def a88 : AF := ⟨[.tmp 2, .tmp 3],
 (.seq (.ops [q 0 1 (oBox (t 0)),
 q 1 2 (oMv (.val (.pointer none))),
 q 2 3 (oMv (i 0))])
 (.seq (.seq (.ops [r 0 13 (oLoadN 2 (t 1)),
 c 1 14 92 [(t 13)],
 q 2 15 (oNot (t 14))])
 (.cond (t 15) (.seq (.ops [q 0 2 (oMv (.val (.pointer none))),
 q 1 3 (oMv (i 1))])
 (.ret))
 (.skip)))
 (.seq (.ops [q 0 16 (oFieldAddr 1 (t 1)),
 r 1 17 (oLoad (t 16)),
 r 2 18 (oLen .slice (t 17)),
 q 3 4 (oMv (t 18))])
 (.seq (.drawn [q 0 19 (oMv (t 4)),
 q 1 20 (oArith .mul (i 2) (t 19)),
 q 2 21 (oMkSlice 1 8 [(.int .i64 0)] (t 20) (t 20)),
 q 3 22 (oFieldAddr 0 (t 1)),
 r 4 23 (oLoad (t 22)),
 q 5 24 (oArith .add (t 23) (i 1)),
 q 6 25 (oMkSlice 1 8 [(.int .i64 0)] (t 24) (t 24)),
 q 7 26 (oMv (t 4)),
 q 8 27 (oArith .mul (i 2) (t 26)),
 q 9 28 (oMkSlice 1 8 [(.int .i64 0)] (t 27) (t 27)),
 q 10 29 (oMv (t 4)),
 q 11 30 (oArith .mul (i 2) (t 29)),
 q 12 31 (oMkSlice 1 8 [(.int .i64 0)] (t 30) (t 30)),
 q 13 32 (oBuild [(.slice none 0 0), (.slice none 0 0), (.slice none 0 0), (.slice none 0 0)] [(0, 1), (1, 1), (2, 1), (3, 1)] [(t 21), (t 25), (t 28), (t 31)]),
 q 14 33 (oBox (t 32)),
 q 15 5 (oAlloc [(.pointer none)]),
 h0 16 (oStore 1 (t 5) (t 33))])
 (.seq (.seq (.ops [q 0 34 (oFieldAddr 1 (t 1)),
 r 1 35 (oLoad (t 34)),
 r 2 36 (oLen .slice (t 35)),
 q 3 37 (oMv (i 0))])
 (.block 0 (.loop (.seq (.ops [q 0 38 (oArith .lss (t 37) (t 36))])
 (.seq (.cond (t 38) (.skip)
 (.exit 0))
 (.seq (.block 1 (.seq (.ops [q 0 39 (oMv (t 37)),
 q 1 40 (oIdxS 2 (t 35) (t 37)),
 r 2 41 (oLoadN 2 (t 40)),
 q 3 7 (oAlloc [(.int .i64 0), (.int .i64 0)]),
 q 4 6 (oMv (t 39)),
 h0 5 (oStore 2 (t 7) (t 41))])
 (.seq (.drawn [r 0 42 (oLoad (t 5)),
 q 1 43 (oNilCheck (t 42)),
 q 2 44 (oFieldAddr 0 (t 43)),
 r 3 45 (oLoad (t 44)),
 q 4 46 (oMv (t 6)),
 q 5 47 (oArith .mul (i 2) (t 46)),
 r 6 48 (oLoad (t 5)),
 q 7 49 (oNilCheck (t 48)),
 q 8 50 (oFieldAddr 0 (t 49)),
 r 9 51 (oLoad (t 50)),
 q 10 52 (oMv (t 6)),
 q 11 53 (oArith .mul (i 2) (t 52)),
 q 12 54 (oArith .add (t 53) (i 1)),
 q 13 55 (oFieldAddr 0 (t 7)),
 r 14 56 (oLoad (t 55)),
 q 15 57 (oFieldAddr 1 (t 7)),
 r 16 58 (oLoad (t 57)),
 q 17 59 (oIdxS 1 (t 45) (t 47)),
 ⟨18, none, none, .op .hard (oStore 1 (t 59) (t 56)), [16]⟩,
 q 19 60 (oIdxS 1 (t 51) (t 54)),
 h0 20 (oStore 1 (t 60) (t 58))])
 (.seq (.drawn [r 0 61 (oLoad (t 5)),
 q 1 62 (oNilCheck (t 61)),
 q 2 63 (oFieldAddr 1 (t 62)),
 r 3 64 (oLoad (t 63)),
 q 4 65 (oFieldAddr 0 (t 7)),
 r 5 66 (oLoad (t 65)),
 q 6 67 (oArith .add (t 66) (i 1)),
 q 7 68 (oIdxS 1 (t 64) (t 67)),
 r 8 69 (oLoad (t 68)),
 q 9 70 (oArith .add (t 69) (i 1)),
 q 10 71 (oIdxS 1 (t 64) (t 67)),
 h0 11 (oStore 1 (t 71) (t 70))])
 (.drawn [r 0 72 (oLoad (t 5)),
 q 1 73 (oNilCheck (t 72)),
 q 2 74 (oFieldAddr 1 (t 73)),
 r 3 75 (oLoad (t 74)),
 q 4 76 (oFieldAddr 1 (t 7)),
 r 5 77 (oLoad (t 76)),
 q 6 78 (oArith .add (t 77) (i 1)),
 q 7 79 (oIdxS 1 (t 75) (t 78)),
 r 8 80 (oLoad (t 79)),
 q 9 81 (oArith .add (t 80) (i 1)),
 q 10 82 (oIdxS 1 (t 75) (t 78)),
 h0 11 (oStore 1 (t 82) (t 81))])))))
 (.ops [q 0 83 (oArith .add (t 37) (i 1)),
 q 1 37 (oMv (t 83))])))))))
 (.seq (.seq (.ops [q 0 84 (oFieldAddr 0 (t 1)),
 r 1 85 (oLoad (t 84)),
 q 2 86 (oMv (i 0))])
 (.block 2 (.loop (.seq (.ops [q 0 87 (oArith .lss (t 86) (t 85))])
 (.seq (.cond (t 87) (.skip)
 (.exit 2))
 (.seq (.block 3 (.seq (.ops [q 0 88 (oMv (t 86)),
 q 1 8 (oMv (t 88))])
 (.drawn [r 0 89 (oLoad (t 5)),
 q 1 90 (oNilCheck (t 89)),
 q 2 91 (oFieldAddr 1 (t 90)),
 r 3 92 (oLoad (t 91)),
 q 4 93 (oMv (t 8)),
 q 5 94 (oArith .add (t 93) (i 1)),
 q 6 95 (oIdxS 1 (t 92) (t 94)),
 r 7 96 (oLoad (t 95)),
 r 8 97 (oLoad (t 5)),
 q 9 98 (oNilCheck (t 97)),
 q 10 99 (oFieldAddr 1 (t 98)),
 r 11 100 (oLoad (t 99)),
 q 12 101 (oMv (t 8)),
 q 13 102 (oIdxS 1 (t 100) (t 101)),
 r 14 103 (oLoad (t 102)),
 q 15 104 (oArith .add (t 96) (t 103)),
 q 16 105 (oIdxS 1 (t 92) (t 94)),
 h0 17 (oStore 1 (t 105) (t 104))])))
 (.ops [q 0 106 (oArith .add (t 86) (i 1)),
 q 1 86 (oMv (t 106))])))))))
 (.seq (.ops [q 0 107 (oBuildSlice 1 0 [(.int .i64 0)] [] []),
 r 1 108 (oLoad (t 5)),
 q 2 109 (oNilCheck (t 108)),
 q 3 110 (oFieldAddr 1 (t 109)),
 r 4 111 (oLoad (t 110)),
 h 5 112 (oAppend 1 8 (t 107) (t 111)),
 q 6 9 (oAlloc [(.slice none 0 0)]),
 h0 7 (oStore 1 (t 9) (t 112))])
 (.seq (.ops [q 0 113 (oClos 151 [] [(t 9), (t 5)]),
 q 1 10 (oMv (t 113))])
 (.seq (.seq (.ops [q 0 114 (oMv (t 4)),
 q 1 115 (oMv (i 0))])
 (.block 4 (.loop (.seq (.ops [q 0 116 (oArith .lss (t 115) (t 114))])
 (.seq (.cond (t 116) (.skip)
 (.exit 4))
 (.seq (.block 5 (.seq (.ops [q 0 117 (oMv (t 115)),
 q 1 11 (oMv (t 117))])
 (.ops [q 0 118 (oMv (t 10)),
 q 1 119 (oMv (t 11)),
 q 2 120 (oArith .mul (i 2) (t 119)),
 q 3 121 (oArith .add (t 120) (i 1)),
 ⟨4, some 122, none, .call (t 118) [(t 121)], []⟩])))
 (.ops [q 0 123 (oArith .add (t 115) (i 1)),
 q 1 115 (oMv (t 123))])))))))
 (.seq (.seq (.ops [q 0 124 (oMv (t 4)),
 q 1 125 (oMv (i 0))])
 (.block 6 (.loop (.seq (.ops [q 0 126 (oArith .lss (t 125) (t 124))])
 (.seq (.cond (t 126) (.skip)
 (.exit 6))
 (.seq (.block 7 (.seq (.ops [q 0 127 (oMv (t 125)),
 q 1 12 (oMv (t 127))])
 (.ops [q 0 128 (oMv (t 10)),
 q 1 129 (oMv (t 12)),
 q 2 130 (oArith .mul (i 2) (t 129)),
 ⟨3, some 131, none, .call (t 128) [(t 130)], []⟩])))
 (.ops [q 0 132 (oArith .add (t 125) (i 1)),
 q 1 125 (oMv (t 132))])))))))
 (.seq (.ops [r 0 133 (oLoad (t 5)),
 q 1 2 (oMv (t 133)),
 q 2 3 (oMv (i 0))])
 (.ret))))))))))))⟩
/-- tangram/colour.free -/
noncomputable def a89 : AF := ⟨[.tmp 6],
 (.seq (.ops [q 0 6 (oMv (i 0))])
 (.seq (.ops [q 0 8 (oMv (t 0)),
 q 1 9 (oMv (t 1)),
 q 2 10 (oMv (t 2)),
 c 3 11 152 [(t 8), (t 9), (t 10)],
 q 4 7 (oAlloc [(.int .i64 0), (.int .i64 0), (.int .i64 0), (.int .i64 0), (.int .i64 0)]),
 h0 5 (oStore 5 (t 7) (t 11))])
 (.seq (.ops [r 0 12 (oSliceArr 1 5 (t 7)),
 c 1 13 153 [(t 12), (i (-1))],
 q 2 6 (oMv (t 13))])
 (.ret))))⟩
/-- tangram/colour.kempe -/
noncomputable def a90 : AF := ⟨[.tmp 6],
 (.seq (.ops [q 0 3 (oBox (t 0)),
 q 1 4 (oBox (t 1)),
 q 2 6 (oMv (i 0))])
 (.seq (.ops [r 0 17 (oLoad (t 3)),
 r 1 18 (oLoad (t 4)),
 q 2 19 (oMv (t 2)),
 c 3 20 152 [(t 17), (t 18), (t 19)],
 q 4 7 (oAlloc [(.int .i64 0), (.int .i64 0), (.int .i64 0), (.int .i64 0), (.int .i64 0)]),
 h0 5 (oStore 5 (t 7) (t 20))])
 (.seq (.seq (.ops [q 0 21 (oMv (i 0))])
 (.block 0 (.loop (.seq (.ops [q 0 22 (oArith .lss (t 21) (i 5))])
 (.seq (.cond (t 22) (.skip)
 (.exit 0))
 (.seq (.block 1 (.seq (.ops [q 0 23 (oMv (t 21)),
 q 1 8 (oAlloc [(.int .i64 0)]),
 h0 2 (oStore 1 (t 8) (t 23))])
 (.seq (.skip)
 (.seq (.ops [q 0 24 (oMv (i 0))])
 (.block 2 (.loop (.seq (.ops [q 0 25 (oArith .lss (t 24) (i 5))])
 (.seq (.cond (t 25) (.skip)
 (.exit 2))
 (.seq (.block 3 (.seq (.ops [q 0 26 (oMv (t 24)),
 q 1 9 (oAlloc [(.int .i64 0)]),
 h0 2 (oStore 1 (t 9) (t 26))])
 (.seq (.seq (.ops [r 0 27 (oLoad (t 8)),
 r 1 28 (oLoad (t 9)),
 q 2 29 (oArith .eql (t 27) (t 28))])
 (.cond (t 29) (.exit 3)
 (.skip)))
 (.seq (.ops [r 0 30 (oLoad (t 8)),
 q 1 31 (oIdxA 1 5 (t 7) (t 30)),
 r 2 32 (oLoad (t 31)),
 q 3 33 (oBuildSlice 1 1 [(.int .i64 0)] [(0, 1)] [(t 32)]),
 q 4 10 (oAlloc [(.slice none 0 0)]),
 h0 5 (oStore 1 (t 10) (t 33))])
 (.seq (.ops [q 0 34 (oMkMap),
 r 1 35 (oLoad (t 8)),
 q 2 36 (oIdxA 1 5 (t 7) (t 35)),
 r 3 37 (oLoad (t 36)),
 h0 4 (oUpdate (.int .i64) (t 34) (t 37) (b true)),
 q 5 38 (oMv (t 34)),
 q 6 11 (oAlloc [(.map none)]),
 h0 7 (oStore 1 (t 11) (t 38))])
 (.seq (.seq (.ops [q 0 12 (oMv (i 0))])
 (.block 4 (.loop (.seq (.seq (.ops [q 0 39 (oMv (t 12)),
 r 1 40 (oLoad (t 10)),
 r 2 41 (oLen .slice (t 40)),
 q 3 42 (oArith .lss (t 39) (t 41))])
 (.cond (t 42) (.skip)
 (.exit 4)))
 (.seq (.block 5 (.seq (.drawn [r 0 45 (oLoad (t 3)),
 r 1 46 (oLoad (t 10)),
 q 2 47 (oMv (t 12)),
 q 3 48 (oIdxS 1 (t 46) (t 47)),
 r 4 49 (oLoad (t 48)),
 c 5 50 97 [(t 45), (t 49)]])
 (.block 6 (.range (t 50) 90050))))
 (.ops [q 0 43 (oMv (t 12)),
 q 1 44 (oArith .add (t 43) (i 1)),
 q 2 12 (oMv (t 44))]))))))
 (.seq (.seq (.ops [r 0 86 (oLoad (t 10)),
 r 1 87 (oLen .slice (t 86)),
 q 2 88 (oMv (i 0))])
 (.block 8 (.loop (.seq (.ops [q 0 89 (oArith .lss (t 88) (t 87))])
 (.seq (.cond (t 89) (.skip)
 (.exit 8))
 (.seq (.block 9 (.seq (.ops [q 0 90 (oIdxS 1 (t 86) (t 88)),
 r 1 91 (oLoad (t 90)),
 q 2 16 (oMv (t 91))])
 (.drawn [r 0 92 (oLoad (t 4)),
 q 1 93 (oMv (t 16)),
 r 2 94 (oLoad (t 8)),
 r 3 95 (oLoad (t 9)),
 q 4 96 (oArith .add (t 94) (t 95)),
 r 5 97 (oLoad (t 4)),
 q 6 98 (oMv (t 16)),
 q 7 99 (oIdxS 1 (t 97) (t 98)),
 r 8 100 (oLoad (t 99)),
 q 9 101 (oArith .sub (t 96) (t 100)),
 q 10 102 (oIdxS 1 (t 92) (t 93)),
 h0 11 (oStore 1 (t 102) (t 101))])))
 (.ops [q 0 103 (oArith .add (t 88) (i 1)),
 q 1 88 (oMv (t 103))])))))))
 (.seq (.ops [r 0 104 (oLoad (t 8)),
 q 1 6 (oMv (t 104))])
 (.ret)))))))))
 (.ops [q 0 105 (oArith .add (t 24) (i 1)),
 q 1 24 (oMv (t 105))]))))))))))
 (.ops [q 0 106 (oArith .add (t 21) (i 1)),
 q 1 21 (oMv (t 106))])))))))
 (.seq (.ops [q 0 6 (oMv (i 0))])
 (.ret)))))⟩
noncomputable def l90050 : AL := ⟨[51],
 (.ops [q 0 13 (oMv (t 51))]),
 (.block 7 (.seq (.ops [r 0 52 (oLoad (t 3)),
 q 1 53 (oMv (t 13)),
 c 2 54 98 [(t 52), (t 53)],
 q 3 14 (oMv (t 54))])
 (.seq (.seq (.ops [q 0 55 (oMv (t 14)),
 r 1 56 (oLoad (t 9)),
 q 2 57 (oIdxA 1 5 (t 7) (t 56)),
 r 3 58 (oLoad (t 57)),
 q 4 59 (oArith .eql (t 55) (t 58))])
 (.cond (t 59) (.exit 3)
 (.skip)))
 (.seq (.drawn [r 0 60 (oLoad (t 11)),
 q 1 61 (oMv (t 14)),
 r 2 62 (oLookup (.int .i64) false (.bool false) (t 60) (t 61)),
 q 3 63 (oNot (t 62)),
 q 4 64 (oMv (t 63)),
 rg 5 65 64 true (oLoad (t 4)),
 qg 6 66 64 true (oMv (t 14)),
 qg 7 67 64 true (oIdxS 1 (t 65) (t 66)),
 rg 8 68 64 true (oLoad (t 67)),
 rg 9 69 64 true (oLoad (t 8)),
 qg 10 70 64 true (oArith .eql (t 68) (t 69)),
 qg 11 71 64 true (oMv (t 70)),
 rg 12 72 71 false (oLoad (t 4)),
 qg 13 73 71 false (oMv (t 14)),
 qg 14 74 71 false (oIdxS 1 (t 72) (t 73)),
 rg 15 75 71 false (oLoad (t 74)),
 rg 16 76 71 false (oLoad (t 9)),
 qg 17 77 71 false (oArith .eql (t 75) (t 76)),
 qg 18 78 64 true (oPick (t 71) (b true) (t 77)),
 q 19 79 (oPick (t 64) (t 78) (b false))])
 (.cond (t 79) (.seq (.ops [r 0 80 (oLoad (t 11)),
 q 1 81 (oMv (t 14)),
 h0 2 (oUpdate (.int .i64) (t 80) (t 81) (b true))])
 (.ops [r 0 82 (oLoad (t 10)),
 q 1 83 (oMv (t 14)),
 q 2 84 (oBuildSlice 1 1 [(.int .i64 0)] [(0, 1)] [(t 83)]),
 h 3 85 (oAppend 1 8 (t 82) (t 84)),
 h0 4 (oStore 1 (t 10) (t 85))]))
 (.skip))))))⟩
/-- tangram/tangramref03.Less -/
noncomputable def a91 : AF := ⟨[.tmp 4],
 (.seq (.ops [q 0 2 (oBox (t 0)),
 q 1 3 (oBox (t 1)),
 q 2 4 (oMv (b false))])
 (.seq (.ops [q 0 5 (oFieldAddr 0 (t 2)),
 r 1 6 (oLoad (t 5)),
 q 2 7 (oFieldAddr 0 (t 3)),
 r 3 8 (oLoad (t 7)),
 q 4 9 (oArith .lss (t 6) (t 8)),
 q 5 10 (oMv (t 9)),
 qg 6 11 10 false (oFieldAddr 0 (t 2)),
 rg 7 12 10 false (oLoad (t 11)),
 qg 8 13 10 false (oFieldAddr 0 (t 3)),
 rg 9 14 10 false (oLoad (t 13)),
 qg 10 15 10 false (oArith .eql (t 12) (t 14)),
 qg 11 16 10 false (oMv (t 15)),
 qg 12 17 16 true (oFieldAddr 1 (t 2)),
 rg 13 18 16 true (oLoad (t 17)),
 qg 14 19 16 true (oFieldAddr 1 (t 3)),
 rg 15 20 16 true (oLoad (t 19)),
 qg 16 21 16 true (oArith .lss (t 18) (t 20)),
 qg 17 22 10 false (oPick (t 16) (t 21) (b false)),
 q 18 23 (oPick (t 10) (b true) (t 22)),
 q 19 4 (oMv (t 23))])
 (.ret)))⟩
/-- tangram/simple.Valid -/
noncomputable def a92 : AF := ⟨[.tmp 2],
 (.seq (.ops [q 0 1 (oBox (t 0)),
 q 1 2 (oMv (b false))])
 (.seq (.seq (.ops [q 0 5 (oFieldAddr 0 (t 1)),
 r 1 6 (oLoad (t 5)),
 q 2 7 (oArith .lss (t 6) (i 0)),
 q 3 8 (oMv (t 7)),
 qg 4 9 8 false (oFieldAddr 0 (t 1)),
 rg 5 10 8 false (oLoad (t 9)),
 qg 6 11 8 false (oArith .gtr (t 10) (i 1048576)),
 q 7 12 (oPick (t 8) (b true) (t 11)),
 q 8 13 (oMv (t 12)),
 qg 9 14 13 false (oFieldAddr 1 (t 1)),
 rg 10 15 13 false (oLoad (t 14)),
 rg 11 16 13 false (oLen .slice (t 15)),
 qg 12 17 13 false (oArith .gtr (t 16) (i 4194304)),
 q 13 18 (oPick (t 13) (b true) (t 17))])
 (.cond (t 18) (.seq (.ops [q 0 2 (oMv (b false))])
 (.ret))
 (.skip)))
 (.seq (.seq (.ops [q 0 19 (oFieldAddr 1 (t 1)),
 r 1 20 (oLoad (t 19)),
 r 2 21 (oLen .slice (t 20)),
 q 3 22 (oMv (i 0))])
 (.block 0 (.loop (.seq (.ops [q 0 23 (oArith .lss (t 22) (t 21))])
 (.seq (.cond (t 23) (.skip)
 (.exit 0))
 (.seq (.block 1 (.seq (.ops [q 0 24 (oMv (t 22)),
 q 1 25 (oIdxS 2 (t 20) (t 22)),
 r 2 26 (oLoadN 2 (t 25)),
 q 3 4 (oAlloc [(.int .i64 0), (.int .i64 0)]),
 q 4 3 (oMv (t 24)),
 h0 5 (oStore 2 (t 4) (t 26))])
 (.seq (.drawn [q 0 27 (oFieldAddr 0 (t 4)),
 r 1 28 (oLoad (t 27)),
 q 2 29 (oArith .lss (t 28) (i 0)),
 q 3 30 (oMv (t 29)),
 qg 4 31 30 false (oFieldAddr 0 (t 4)),
 rg 5 32 30 false (oLoad (t 31)),
 qg 6 33 30 false (oFieldAddr 1 (t 4)),
 rg 7 34 30 false (oLoad (t 33)),
 qg 8 35 30 false (oArith .geq (t 32) (t 34)),
 q 9 36 (oPick (t 30) (b true) (t 35)),
 q 10 37 (oMv (t 36)),
 qg 11 38 37 false (oFieldAddr 1 (t 4)),
 rg 12 39 37 false (oLoad (t 38)),
 qg 13 40 37 false (oFieldAddr 0 (t 1)),
 rg 14 41 37 false (oLoad (t 40)),
 qg 15 42 37 false (oArith .geq (t 39) (t 41)),
 q 16 43 (oPick (t 37) (b true) (t 42)),
 q 17 44 (oMv (t 43)),
 qg 18 45 44 false (oMv (t 3)),
 qg 19 46 44 false (oArith .gtr (t 45) (i 0)),
 qg 20 47 44 false (oMv (t 46)),
 qg 21 48 47 true (oFieldAddr 1 (t 1)),
 rg 22 49 47 true (oLoad (t 48)),
 qg 23 50 47 true (oMv (t 3)),
 qg 24 51 47 true (oArith .sub (t 50) (i 1)),
 qg 25 52 47 true (oIdxS 2 (t 49) (t 51)),
 rg 26 53 47 true (oLoadN 2 (t 52)),
 rg 27 54 47 true (oLoadN 2 (t 4)),
 ⟨28, some 55, some (47, true), .callF 154 [(t 53), (t 54)], []⟩,
 qg 29 56 47 true (oArith .geq (t 55) (i 0)),
 qg 30 57 44 false (oPick (t 47) (t 56) (b false)),
 q 31 58 (oPick (t 44) (b true) (t 57))])
 (.cond (t 58) (.seq (.ops [q 0 2 (oMv (b false))])
 (.ret))
 (.skip)))))
 (.ops [q 0 59 (oArith .add (t 22) (i 1)),
 q 1 22 (oMv (t 59))])))))))
 (.seq (.ops [q 0 2 (oMv (b true))])
 (.ret)))))⟩
/-- (*tangram/csr.Adj).Degree -/
noncomputable def a93 : AF := ⟨[.tmp 4],
 (.seq (.ops [q 0 4 (oMv (i 0))])
 (.seq (.ops [q 0 5 (oMv (t 0)),
 q 1 6 (oMv (t 1)),
 c 2 7 155 [(t 5), (t 6)],
 r 3 8 (oLen .slice (t 7)),
 q 4 4 (oMv (t 8))])
 (.ret)))⟩
/-- container/heap.Init -/
noncomputable def a94 : AF := ⟨[],
 (.seq (.ops [q 0 4 (oMv (t 0)),
 ⟨1, some 5, none, .invoke "Len" (t 4) [], []⟩,
 q 2 2 (oMv (t 5))])
 (.seq (.ops [q 0 6 (oMv (t 2)),
 q 1 7 (oArith .quo (t 6) (i 2)),
 q 2 8 (oArith .sub (t 7) (i 1)),
 q 3 3 (oMv (t 8))])
 (.block 0 (.loop (.seq (.seq (.ops [q 0 9 (oMv (t 3)),
 q 1 10 (oArith .geq (t 9) (i 0))])
 (.cond (t 10) (.skip)
 (.exit 0)))
 (.seq (.block 1 (.ops [q 0 13 (oMv (t 0)),
 q 1 14 (oMv (t 3)),
 q 2 15 (oMv (t 2)),
 c 3 16 156 [(t 13), (t 14), (t 15)]]))
 (.ops [q 0 11 (oMv (t 3)),
 q 1 12 (oArith .sub (t 11) (i 1)),
 q 2 3 (oMv (t 12))])))))))⟩
/-- (tangram/colour.queue).Len -/
noncomputable def a95 : AF := ⟨[.tmp 2],
 (.seq (.ops [q 0 2 (oMv (i 0))])
 (.seq (.ops [q 0 3 (oMv (t 0)),
 r 1 4 (oLen .slice (t 3)),
 q 2 2 (oMv (t 4))])
 (.ret)))⟩
/-- container/heap.Pop -/
noncomputable def a96 : AF := ⟨[.tmp 2],
 (.seq (.ops [q 0 2 (oMv (.val .nilIface))])
 (.seq (.ops [q 0 4 (oMv (t 0)),
 ⟨1, some 5, none, .invoke "Len" (t 4) [], []⟩,
 q 2 6 (oArith .sub (t 5) (i 1)),
 q 3 3 (oMv (t 6))])
 (.seq (.ops [q 0 7 (oMv (t 0)),
 q 1 8 (oMv (t 3)),
 ⟨2, some 9, none, .invoke "Swap" (t 7) [(i 0), (t 8)], []⟩])
 (.seq (.ops [q 0 10 (oMv (t 0)),
 q 1 11 (oMv (t 3)),
 c 2 12 156 [(t 10), (i 0), (t 11)]])
 (.seq (.ops [q 0 13 (oMv (t 0)),
 ⟨1, some 14, none, .invoke "Pop" (t 13) [], []⟩,
 q 2 2 (oMv (t 14))])
 (.ret))))))⟩
/-- (*tangram/csr.Adj).Out -/
noncomputable def a97 : AF := ⟨[.tmp 4],
 (.seq (.ops [q 0 2 (oBox (t 0)),
 q 1 3 (oBox (t 1)),
 q 2 4 (oMv (.val .nilFunc))])
 (.seq (.ops [q 0 5 (oClos 157 [] [(t 2), (t 3)]),
 q 1 4 (oMv (t 5))])
 (.ret)))⟩
/-- (*tangram/csr.Adj).To -/
noncomputable def a98 : AF := ⟨[.tmp 4],
 (.seq (.ops [q 0 4 (oMv (i 0))])
 (.seq (.seq (.ops [q 0 5 (oMv (t 0)),
 q 1 6 (oMv (t 1)),
 c 2 7 158 [(t 5), (t 6)],
 q 3 8 (oNot (t 7))])
 (.cond (t 8) (.seq (.ops [q 0 4 (oMv (i (-1)))])
 (.ret))
 (.skip)))
 (.seq (.ops [q 0 9 (oMv (t 0)),
 q 1 10 (oNilCheck (t 9)),
 q 2 11 (oFieldAddr 0 (t 10)),
 r 3 12 (oLoad (t 11)),
 q 4 13 (oMv (t 1)),
 q 5 14 (oArith .xor (t 13) (i 1)),
 q 6 15 (oIdxS 1 (t 12) (t 14)),
 r 7 16 (oLoad (t 15)),
 q 8 4 (oMv (t 16))])
 (.ret))))⟩
/-- container/heap.Push -/
noncomputable def a99 : AF := ⟨[],
 (.seq (.ops [q 0 4 (oMv (t 0)),
 q 1 5 (oMv (t 1)),
 ⟨2, some 6, none, .invoke "Push" (t 4) [(t 5)], []⟩])
 (.ops [q 0 7 (oMv (t 0)),
 q 1 8 (oMv (t 0)),
 ⟨2, some 9, none, .invoke "Len" (t 8) [], []⟩,
 q 3 10 (oArith .sub (t 9) (i 1)),
 c 4 11 159 [(t 7), (t 10)]]))⟩
/-- tangram/dfs.Walk -/
noncomputable def a106 : AF := ⟨[.cellN 2 4, .tmp 3],
 (.seq (.ops [q 0 1 (oBox (t 0)),
 q 1 2 (oAlloc [(.slice none 0 0), (.slice none 0 0), (.slice none 0 0), (.slice none 0 0)]),
 q 2 3 (oMv (i 0))])
 (.seq (.ops [r 0 14 (oLoadN 2 (t 1)),
 c 1 15 88 [(t 14)],
 q 2 13 (oMv (t 15)),
 q 3 16 (oExtract 0 (t 13)),
 q 4 17 (oExtract 1 (t 13)),
 q 5 4 (oAlloc [(.pointer none)]),
 h0 6 (oStore 1 (t 4) (t 16)),
 q 7 5 (oMv (t 17))])
 (.seq (.seq (.ops [q 0 18 (oMv (t 5)),
 q 1 19 (oArith .neq (t 18) (i 0))])
 (.cond (t 19) (.seq (.ops [q 0 20 (oBuild [(.slice none 0 0), (.slice none 0 0), (.slice none 0 0), (.slice none 0 0)] [] []),
 q 1 21 (oMv (t 5)),
 h0 2 (oStore 4 (t 2) (t 20)),
 q 3 3 (oMv (t 21))])
 (.ret))
 (.skip)))
 (.seq (.drawn [q 0 22 (oFieldAddr 0 (t 1)),
 r 1 23 (oLoad (t 22)),
 q 3 25 (oFieldAddr 0 (t 1)),
 r 4 26 (oLoad (t 25)),
 r 6 28 (oLoad (t 4)),
 q 10 6 (oAlloc [(.slice none 0 0), (.slice none 0 0), (.slice none 0 0), (.slice none 0 0)]),
 ⟨2, some 24, none, .callF 165 [(t 23), (i (-1))], [4, 6]⟩,
 ⟨5, some 27, none, .callF 165 [(t 26), (i (-1))], [6]⟩,
 c 7 29 166 [(t 28)],
 c 8 30 165 [(t 29), (i (-1))],
 q 9 31 (oBuild [(.slice none 0 0), (.slice none 0 0), (.slice none 0 0), (.slice none 0 0)] [(0, 1), (1, 1), (3, 1)] [(t 24), (t 27), (t 30)]),
 h0 11 (oStore 4 (t 6) (t 31))])
 (.seq (.ops [q 0 7 (oAlloc [(.slice none 0 0)])])
 (.seq (.ops [q 0 32 (oClos 167 [] [(t 6), (t 7), (t 4)]),
 q 1 8 (oMv (t 32))])
 (.seq (.seq (.ops [q 0 33 (oFieldAddr 0 (t 1)),
 r 1 34 (oLoad (t 33)),
 q 2 35 (oMv (i 0))])
 (.block 0 (.loop (.seq (.ops [q 0 36 (oArith .lss (t 35) (t 34))])
 (.seq (.cond (t 36) (.skip)
 (.exit 0))
 (.seq (.block 1 (.seq (.ops [q 0 37 (oMv (t 35)),
 q 1 9 (oMv (t 37))])
 (.seq (.seq (.ops [q 0 38 (oFieldAddr 1 (t 6)),
 r 1 39 (oLoad (t 38)),
 q 2 40 (oMv (t 9)),
 q 3 41 (oIdxS 1 (t 39) (t 40)),
 r 4 42 (oLoad (t 41)),
 q 5 43 (oArith .geq (t 42) (i 0))])
 (.cond (t 43) (.exit 1)
 (.skip)))
 (.seq (.ops [q 0 44 (oMv (t 8)),
 q 1 45 (oMv (t 9)),
 ⟨2, some 46, none, .call (t 44) [(t 45), (i (-1)), (i 0)], []⟩])
 (.block 2 (.loop (.seq (.seq (.ops [c 0 47 170 [(t 7)]])
 (.cond (t 47) (.skip)
 (.exit 2)))
 (.block 3 (.seq (.ops [c 0 48 171 [(t 7)],
 q 1 10 (oMv (t 48))])
 (.seq (.ops [q 0 49 (oMv (t 10)),
 q 1 50 (oNilCheck (t 49)),
 q 2 51 (oFieldAddr 1 (t 50)),
 r 3 52 (oLoad (t 51)),
 q 4 11 (oMv (t 52))])
 (.seq (.seq (.ops [q 0 53 (oMv (t 11)),
 q 1 54 (oArith .lss (t 53) (i 0))])
 (.cond (t 54) (.seq (.ops [c 0 55 172 [(t 7)]])
 (.exit 3))
 (.skip)))
 (.seq (.ops [q 0 56 (oMv (t 10)),
 r 1 57 (oLoad (t 4)),
 q 2 58 (oMv (t 11)),
 c 3 59 173 [(t 57), (t 58)],
 q 4 60 (oNilCheck (t 56)),
 q 5 61 (oFieldAddr 1 (t 60)),
 h0 6 (oStore 1 (t 61) (t 59))])
 (.seq (.seq (.ops [q 0 62 (oFieldAddr 3 (t 6)),
 r 1 63 (oLoad (t 62)),
 q 2 64 (oMv (t 11)),
 q 3 65 (oArith .quo (t 64) (i 2)),
 q 4 66 (oIdxS 1 (t 63) (t 65)),
 r 5 67 (oLoad (t 66)),
 q 6 68 (oArith .geq (t 67) (i 0))])
 (.cond (t 68) (.exit 3)
 (.skip)))
 (.seq (.ops [q 0 69 (oFieldAddr 3 (t 6)),
 r 1 70 (oLoad (t 69)),
 q 2 71 (oMv (t 11)),
 q 3 72 (oArith .quo (t 71) (i 2)),
 q 4 73 (oMv (t 11)),
 q 5 74 (oIdxS 1 (t 70) (t 72)),
 h0 6 (oStore 1 (t 74) (t 73))])
 (.seq (.ops [r 0 75 (oLoad (t 4)),
 q 1 76 (oMv (t 11)),
 c 2 77 98 [(t 75), (t 76)],
 q 3 12 (oMv (t 77))])
 (.seq (.ops [q 0 78 (oFieldAddr 1 (t 6)),
 r 1 79 (oLoad (t 78)),
 q 2 80 (oMv (t 12)),
 q 3 81 (oIdxS 1 (t 79) (t 80)),
 r 4 82 (oLoad (t 81)),
 q 5 83 (oArith .lss (t 82) (i 0))])
 (.cond (t 83) (.drawn [q 0 84 (oMv (t 8)),
 q 1 85 (oMv (t 12)),
 q 2 86 (oMv (t 11)),
 q 3 87 (oFieldAddr 1 (t 6)),
 r 4 88 (oLoad (t 87)),
 q 5 89 (oMv (t 10)),
 q 6 90 (oNilCheck (t 89)),
 q 7 91 (oFieldAddr 0 (t 90)),
 r 8 92 (oLoad (t 91)),
 q 9 93 (oIdxS 1 (t 88) (t 92)),
 r 10 94 (oLoad (t 93)),
 q 11 95 (oArith .add (t 94) (i 1)),
 ⟨12, some 96, none, .call (t 84) [(t 85), (t 86), (t 95)], []⟩])
 (.skip))))))))))))))))))
 (.ops [q 0 97 (oArith .add (t 35) (i 1)),
 q 1 35 (oMv (t 97))])))))))
 (.seq (.ops [r 0 98 (oLoadN 4 (t 6)),
 h0 1 (oStore 4 (t 2) (t 98)),
 q 2 3 (oMv (i 0))])
 (.ret)))))))))⟩
/-- tangram/low.Of -/
noncomputable def a113 : AF := ⟨[.cellN 4 4, .tmp 5],
 (.seq (.ops [q 0 2 (oBox (t 0)),
 q 1 3 (oBox (t 1)),
 q 2 4 (oAlloc [(.slice none 0 0), (.slice none 0 0), (.slice none 0 0), (.slice none 0 0)]),
 q 3 5 (oMv (i 0))])
 (.seq (.seq (.ops [r 0 32 (oLoadN 2 (t 2)),
 r 1 33 (oLoadN 4 (t 3)),
 c 2 34 192 [(t 32), (t 33)],
 q 3 6 (oMv (t 34))])
 (.seq (.ops [q 0 35 (oMv (t 6)),
 q 1 36 (oArith .neq (t 35) (i 0))])
 (.cond (t 36) (.seq (.ops [q 0 37 (oBuild [(.slice none 0 0), (.slice none 0 0), (.slice none 0 0), (.slice none 0 0)] [] []),
 q 1 38 (oMv (t 6)),
 h0 2 (oStore 4 (t 4) (t 37)),
 q 3 5 (oMv (t 38))])
 (.ret))
 (.skip))))
 (.seq (.ops [q 0 39 (oFieldAddr 1 (t 2)),
 r 1 40 (oLoad (t 39)),
 r 2 41 (oLen .slice (t 40)),
 q 3 7 (oMv (t 41))])
 (.seq (.drawn [q 0 42 (oMv (t 7)),
 q 1 43 (oMkSlice 1 8 [(.int .i64 0)] (t 42) (t 42)),
 q 2 44 (oMv (t 7)),
 q 3 45 (oMkSlice 1 8 [(.int .i64 0)] (t 44) (t 44)),
 q 4 9 (oAlloc [(.slice none 0 0)]),
 q 5 8 (oMv (t 43)),
 h0 6 (oStore 1 (t 9) (t 45))])
 (.seq (.ops [q 0 46 (oFieldAddr 0 (t 2)),
 r 1 47 (oLoad (t 46)),
 q 2 48 (oMkSlice 1 24 [(.slice none 0 0)] (t 47) (t 47)),
 q 3 10 (oAlloc [(.slice none 0 0)]),
 h0 4 (oStore 1 (t 10) (t 48))])
 (.seq (.seq (.ops [q 0 49 (oMv (t 7)),
 q 1 50 (oMv (i 0))])
 (.block 0 (.loop (.seq (.ops [q 0 51 (oArith .lss (t 50) (t 49))])
 (.seq (.cond (t 51) (.skip)
 (.exit 0))
 (.seq (.block 1 (.seq (.ops [q 0 52 (oMv (t 50)),
 q 1 11 (oMv (t 52))])
 (.seq (.drawn [q 0 54 (oMv (t 8)),
 q 1 55 (oMv (t 11)),
 r 2 56 (oLoad (t 9)),
 q 3 57 (oMv (t 11)),
 r 4 58 (oLoadN 2 (t 2)),
 r 5 59 (oLoadN 4 (t 3)),
 q 6 60 (oMv (t 11)),
 ⟨7, some 61, none, .callF 193 [(t 58), (t 59), (t 60)], [2]⟩,
 q 8 53 (oMv (t 61)),
 q 9 62 (oExtract 0 (t 53)),
 q 10 63 (oExtract 1 (t 53)),
 q 11 64 (oIdxS 1 (t 54) (t 55)),
 ⟨12, none, none, .op .hard (oStore 1 (t 64) (t 62)), [2]⟩,
 q 13 65 (oIdxS 1 (t 56) (t 57)),
 h0 14 (oStore 1 (t 65) (t 63))])
 (.drawn [r 0 66 (oLoad (t 10)),
 q 1 67 (oMv (t 8)),
 q 2 68 (oMv (t 11)),
 q 3 69 (oIdxS 1 (t 67) (t 68)),
 r 4 70 (oLoad (t 69)),
 r 5 71 (oLoad (t 10)),
 q 6 72 (oMv (t 8)),
 q 7 73 (oMv (t 11)),
 q 8 74 (oIdxS 1 (t 72) (t 73)),
 r 9 75 (oLoad (t 74)),
 q 10 76 (oIdxS 1 (t 71) (t 75)),
 r 11 77 (oLoad (t 76)),
 q 12 78 (oFieldAddr 3 (t 3)),
 r 13 79 (oLoad (t 78)),
 q 14 80 (oMv (t 11)),
 q 15 81 (oIdxS 1 (t 79) (t 80)),
 r 16 82 (oLoad (t 81)),
 q 17 83 (oBuildSlice 1 1 [(.int .i64 0)] [(0, 1)] [(t 82)]),
 ⟨18, some 84, none, .op .hard (oAppend 1 8 (t 77) (t 83)), [0, 4]⟩,
 q 19 85 (oIdxS 1 (t 66) (t 70)),
 h0 20 (oStore 1 (t 85) (t 84))]))))
 (.ops [q 0 86 (oArith .add (t 50) (i 1)),
 q 1 50 (oMv (t 86))])))))))
 (.seq (.drawn [q 0 87 (oFieldAddr 0 (t 2)),
 r 1 88 (oLoad (t 87)),
 q 2 89 (oMkSlice 1 8 [(.int .i64 0)] (t 88) (t 88)),
 q 3 90 (oFieldAddr 0 (t 2)),
 r 4 91 (oLoad (t 90)),
 q 5 92 (oMkSlice 1 8 [(.int .i64 0)] (t 91) (t 91)),
 q 6 12 (oAlloc [(.slice none 0 0)]),
 q 7 13 (oAlloc [(.slice none 0 0)]),
 ⟨8, none, none, .op .hard (oStore 1 (t 12) (t 89)), [4]⟩,
 h0 9 (oStore 1 (t 13) (t 92))])
 (.seq (.seq (.ops [q 0 93 (oFieldAddr 2 (t 3)),
 r 1 94 (oLoad (t 93)),
 c 2 95 194 [(t 94)]])
 (.block 2 (.range (t 95) 113095)))
 (.seq (.drawn [q 0 154 (oMv (t 7)),
 q 1 155 (oMkSlice 1 8 [(.int .i64 0)] (t 154) (t 154)),
 q 2 156 (oMv (t 7)),
 q 3 157 (oMkSlice 1 8 [(.int .i64 0)] (t 156) (t 156)),
 q 4 158 (oMv (t 7)),
 q 5 159 (oMkSlice 1 8 [(.int .i64 0)] (t 158) (t 158)),
 q 6 160 (oFieldAddr 0 (t 2)),
 r 7 161 (oLoad (t 160)),
 q 8 162 (oMkSlice 1 24 [(.slice none 0 0)] (t 161) (t 161)),
 q 9 163 (oBuild [(.slice none 0 0), (.slice none 0 0), (.slice none 0 0), (.slice none 0 0)] [(0, 1), (1, 1), (2, 1), (3, 1)] [(t 155), (t 157), (t 159), (t 162)]),
 q 10 21 (oAlloc [(.slice none 0 0), (.slice none 0 0), (.slice none 0 0), (.slice none 0 0)]),
 h0 11 (oStore 4 (t 21) (t 163))])
 (.seq (.seq (.ops [q 0 164 (oMv (t 7)),
 q 1 165 (oMv (i 0))])
 (.block 6 (.loop (.seq (.ops [q 0 166 (oArith .lss (t 165) (t 164))])
 (.seq (.cond (t 166) (.skip)
 (.exit 6))
 (.seq (.block 7 (.seq (.ops [q 0 167 (oMv (t 165)),
 q 1 22 (oMv (t 167))])
 (.seq (.drawn [q 0 168 (oFieldAddr 1 (t 3)),
 r 1 169 (oLoad (t 168)),
 q 2 170 (oMv (t 8)),
 q 3 171 (oMv (t 22)),
 q 4 172 (oIdxS 1 (t 170) (t 171)),
 r 5 173 (oLoad (t 172)),
 q 6 174 (oIdxS 1 (t 169) (t 173)),
 r 7 175 (oLoad (t 174)),
 r 8 176 (oLoad (t 9)),
 q 9 177 (oMv (t 22)),
 q 10 178 (oIdxS 1 (t 176) (t 177)),
 r 11 179 (oLoad (t 178)),
 q 12 23 (oMv (t 175)),
 q 13 24 (oMv (t 179))])
 (.seq (.ops [c 0 181 195 [],
 q 1 180 (oMv (t 181)),
 q 2 182 (oExtract 0 (t 180)),
 q 3 183 (oExtract 1 (t 180)),
 q 4 25 (oMv (t 182)),
 q 5 26 (oMv (t 183))])
 (.seq (.ops [q 0 184 (oMv (t 25)),
 q 1 185 (oMv (t 23)),
 ⟨2, some 186, none, .call (t 184) [(t 185)], []⟩])
 (.seq (.seq (.drawn [q 0 187 (oFieldAddr 0 (t 3)),
 r 1 188 (oLoad (t 187)),
 q 2 189 (oMv (t 24)),
 q 3 190 (oIdxS 1 (t 188) (t 189)),
 r 4 191 (oLoad (t 190)),
 q 5 192 (oFieldAddr 3 (t 3)),
 r 6 193 (oLoad (t 192)),
 q 7 194 (oMv (t 22)),
 q 8 195 (oIdxS 1 (t 193) (t 194)),
 r 9 196 (oLoad (t 195)),
 q 10 197 (oArith .eql (t 191) (t 196))])
 (.cond (t 197) (.seq (.ops [q 0 198 (oMv (t 25)),
 r 1 199 (oLoad (t 12)),
 q 2 200 (oMv (t 24)),
 q 3 201 (oIdxS 1 (t 199) (t 200)),
 r 4 202 (oLoad (t 201)),
 q 5 203 (oMv (t 23)),
 q 6 204 (oMin (t 202) [(t 203)]),
 ⟨7, some 205, none, .call (t 198) [(t 204)], []⟩])
 (.ops [q 0 206 (oMv (t 25)),
 r 1 207 (oLoad (t 13)),
 q 2 208 (oMv (t 24)),
 q 3 209 (oIdxS 1 (t 207) (t 208)),
 r 4 210 (oLoad (t 209)),
 q 5 211 (oMv (t 23)),
 q 6 212 (oMin (t 210) [(t 211)]),
 ⟨7, some 213, none, .call (t 206) [(t 212)], []⟩]))
 (.ops [q 0 214 (oMv (t 25)),
 q 1 215 (oFieldAddr 1 (t 3)),
 r 2 216 (oLoad (t 215)),
 q 3 217 (oMv (t 24)),
 q 4 218 (oIdxS 1 (t 216) (t 217)),
 r 5 219 (oLoad (t 218)),
 ⟨6, some 220, none, .call (t 214) [(t 219)], []⟩])))
 (.seq (.ops [q 0 222 (oMv (t 26)),
 ⟨1, some 223, none, .call (t 222) [], []⟩,
 q 2 221 (oMv (t 223)),
 q 3 224 (oExtract 0 (t 221)),
 q 4 225 (oExtract 1 (t 221)),
 q 5 27 (oMv (t 224)),
 q 6 28 (oMv (t 225))])
 (.seq (.seq (.ops [q 0 226 (oMv (t 28)),
 q 1 227 (oArith .eql (t 226) (i 9223372036854775807))])
 (.cond (t 227) (.ops [q 0 228 (oMv (t 27)),
 q 1 28 (oMv (t 228))])
 (.skip)))
 (.seq (.drawn [q 0 229 (oFieldAddr 0 (t 21)),
 r 1 230 (oLoad (t 229)),
 q 2 231 (oMv (t 22)),
 q 3 232 (oFieldAddr 1 (t 21)),
 r 4 233 (oLoad (t 232)),
 q 5 234 (oMv (t 22)),
 q 6 235 (oFieldAddr 2 (t 21)),
 r 7 236 (oLoad (t 235)),
 q 8 237 (oMv (t 22)),
 q 9 238 (oMv (t 27)),
 q 10 239 (oMv (t 28)),
 q 11 240 (oMv (t 27)),
 q 12 241 (oArith .mul (i 2) (t 240)),
 q 13 242 (oIdxS 1 (t 230) (t 231)),
 ⟨14, none, none, .op .hard (oStore 1 (t 242) (t 238)), [4, 7]⟩,
 q 15 243 (oIdxS 1 (t 233) (t 234)),
 ⟨16, none, none, .op .hard (oStore 1 (t 243) (t 239)), [7]⟩,
 q 17 244 (oIdxS 1 (t 236) (t 237)),
 h0 18 (oStore 1 (t 244) (t 241))])
 (.seq (.ops [q 0 245 (oMv (t 28)),
 q 1 246 (oMv (t 27)),
 q 2 247 (oArith .gtr (t 245) (t 246)),
 q 3 248 (oMv (t 247)),
 qg 4 249 248 true (oMv (t 28)),
 qg 5 250 248 true (oMv (t 23)),
 qg 6 251 248 true (oArith .lss (t 249) (t 250)),
 q 7 252 (oPick (t 248) (t 251) (b false))])
 (.cond (t 252) (.ops [q 0 253 (oFieldAddr 2 (t 21)),
 r 1 254 (oLoad (t 253)),
 q 2 255 (oMv (t 22)),
 q 3 256 (oIdxS 1 (t 254) (t 255)),
 r 4 257 (oLoad (t 256)),
 q 5 258 (oArith .add (t 257) (i 1)),
 q 6 259 (oIdxS 1 (t 254) (t 255)),
 h0 7 (oStore 1 (t 259) (t 258))])
 (.skip))))))))))))
 (.ops [q 0 260 (oArith .add (t 165) (i 1)),
 q 1 165 (oMv (t 260))])))))))
 (.seq (.ops [q 0 261 (oFieldAddr 3 (t 3)),
 r 1 262 (oLoad (t 261)),
 c 2 263 197 [(t 262)],
 c 3 264 196 [(t 263)],
 q 4 29 (oMv (t 264))])
 (.seq (.ops [q 0 266 (oMv (t 29)),
 q 1 267 (oClos 199 [] [(t 21)]),
 q 2 268 (oFieldAddr 0 (t 2)),
 r 3 269 (oLoad (t 268)),
 q 4 270 (oArith .mul (i 2) (t 269)),
 q 5 271 (oArith .add (t 270) (i 1)),
 c 6 272 198 [(t 266), (t 267), (t 271)],
 q 7 265 (oMv (t 272)),
 q 8 273 (oExtract 0 (t 265)),
 q 9 274 (oExtract 1 (t 265)),
 q 10 29 (oMv (t 273))])
 (.seq (.seq (.ops [q 0 275 (oMv (t 29)),
 r 1 276 (oLen .slice (t 275)),
 q 2 277 (oMv (i 0))])
 (.block 8 (.loop (.seq (.ops [q 0 278 (oArith .lss (t 277) (t 276))])
 (.seq (.cond (t 278) (.skip)
 (.exit 8))
 (.seq (.block 9 (.seq (.ops [q 0 279 (oIdxS 1 (t 275) (t 277)),
 r 1 280 (oLoad (t 279)),
 q 2 31 (oMv (t 280))])
 (.drawn [q 0 281 (oFieldAddr 3 (t 21)),
 r 1 282 (oLoad (t 281)),
 q 2 283 (oMv (t 8)),
 q 3 284 (oMv (t 31)),
 q 4 285 (oArith .quo (t 284) (i 2)),
 q 5 286 (oIdxS 1 (t 283) (t 285)),
 r 6 287 (oLoad (t 286)),
 q 7 288 (oFieldAddr 3 (t 21)),
 r 8 289 (oLoad (t 288)),
 q 9 290 (oMv (t 8)),
 q 10 291 (oMv (t 31)),
 q 11 292 (oArith .quo (t 291) (i 2)),
 q 12 293 (oIdxS 1 (t 290) (t 292)),
 r 13 294 (oLoad (t 293)),
 q 14 295 (oIdxS 1 (t 289) (t 294)),
 r 15 296 (oLoad (t 295)),
 q 16 297 (oMv (t 31)),
 q 17 298 (oBuildSlice 1 1 [(.int .i64 0)] [(0, 1)] [(t 297)]),
 ⟨18, some 299, none, .op .hard (oAppend 1 8 (t 296) (t 298)), [1, 6]⟩,
 q 19 300 (oIdxS 1 (t 282) (t 287)),
 h0 20 (oStore 1 (t 300) (t 299))])))
 (.ops [q 0 301 (oArith .add (t 277) (i 1)),
 q 1 277 (oMv (t 301))])))))))
 (.seq (.ops [r 0 302 (oLoadN 4 (t 21)),
 h0 1 (oStore 4 (t 4) (t 302)),
 q 2 5 (oMv (i 0))])
 (.ret)))))))))))))))⟩
noncomputable def l113095 : AL := ⟨[96, 97],
 (.ops [q 0 15 (oMv (t 97))]),
 (.block 3 (.seq (.ops [c 0 99 195 [],
 q 1 98 (oMv (t 99)),
 q 2 100 (oExtract 0 (t 98)),
 q 3 101 (oExtract 1 (t 98)),
 q 4 16 (oMv (t 100)),
 q 5 17 (oMv (t 101))])
 (.seq (.seq (.ops [r 0 102 (oLoad (t 10)),
 q 1 103 (oMv (t 15)),
 q 2 104 (oIdxS 1 (t 102) (t 103)),
 r 3 105 (oLoad (t 104)),
 r 4 106 (oLen .slice (t 105)),
 q 5 107 (oMv (i 0))])
 (.block 4 (.loop (.seq (.ops [q 0 108 (oArith .lss (t 107) (t 106))])
 (.seq (.cond (t 108) (.skip)
 (.exit 4))
 (.seq (.block 5 (.seq (.ops [q 0 109 (oIdxS 1 (t 105) (t 107)),
 r 1 110 (oLoad (t 109)),
 q 2 19 (oMv (t 110))])
 (.seq (.ops [r 0 111 (oLoad (t 9)),
 q 1 112 (oMv (t 19)),
 q 2 113 (oArith .quo (t 112) (i 2)),
 q 3 114 (oIdxS 1 (t 111) (t 113)),
 r 4 115 (oLoad (t 114)),
 q 5 20 (oMv (t 115))])
 (.seq (.ops [q 0 116 (oFieldAddr 0 (t 3)),
 r 1 117 (oLoad (t 116)),
 q 2 118 (oMv (t 20)),
 q 3 119 (oIdxS 1 (t 117) (t 118)),
 r 4 120 (oLoad (t 119)),
 q 5 121 (oMv (t 19)),
 q 6 122 (oArith .eql (t 120) (t 121))])
 (.cond (t 122) (.seq (.ops [q 0 123 (oMv (t 16)),
 r 1 124 (oLoad (t 12)),
 q 2 125 (oMv (t 20)),
 q 3 126 (oIdxS 1 (t 124) (t 125)),
 r 4 127 (oLoad (t 126)),
 ⟨5, some 128, none, .call (t 123) [(t 127)], []⟩])
 (.ops [q 0 129 (oMv (t 16)),
 r 1 130 (oLoad (t 13)),
 q 2 131 (oMv (t 20)),
 q 3 132 (oIdxS 1 (t 130) (t 131)),
 r 4 133 (oLoad (t 132)),
 ⟨5, some 134, none, .call (t 129) [(t 133)], []⟩]))
 (.ops [q 0 135 (oMv (t 16)),
 q 1 136 (oFieldAddr 1 (t 3)),
 r 2 137 (oLoad (t 136)),
 q 3 138 (oMv (t 20)),
 q 4 139 (oIdxS 1 (t 137) (t 138)),
 r 5 140 (oLoad (t 139)),
 ⟨6, some 141, none, .call (t 135) [(t 140)], []⟩]))))))
 (.ops [q 0 142 (oArith .add (t 107) (i 1)),
 q 1 107 (oMv (t 142))])))))))
 (.drawn [r 0 144 (oLoad (t 12)),
 q 1 145 (oMv (t 15)),
 r 2 146 (oLoad (t 13)),
 q 3 147 (oMv (t 15)),
 q 4 148 (oMv (t 17)),
 ⟨5, some 149, none, .call (t 148) [], [0, 2]⟩,
 q 6 143 (oMv (t 149)),
 q 7 150 (oExtract 0 (t 143)),
 q 8 151 (oExtract 1 (t 143)),
 q 9 152 (oIdxS 1 (t 144) (t 145)),
 ⟨10, none, none, .op .hard (oStore 1 (t 152) (t 150)), [2]⟩,
 q 11 153 (oIdxS 1 (t 146) (t 147)),
 h0 12 (oStore 1 (t 153) (t 151))]))))⟩
/-- (*tangram/lr.test).walk -/
noncomputable def a114 : AF := ⟨[.tmp 4],
 (.seq (.ops [q 0 4 (oMv (b false))])
 (.seq (.ops [q 0 14 (oMv (t 1)),
 q 1 15 (oBuild [(.int .i64 0), (.int .i64 0)] [(0, 1), (1, 1)] [(t 14), (i 0)]),
 q 2 16 (oBuildSlice 2 1 [(.int .i64 0), (.int .i64 0)] [(0, 2)] [(t 15)]),
 q 3 5 (oMv (t 16))])
 (.seq (.block 0 (.loop (.seq (.seq (.ops [q 0 17 (oMv (t 5)),
 r 1 18 (oLen .slice (t 17)),
 q 2 19 (oArith .gtr (t 18) (i 0))])
 (.cond (t 19) (.skip)
 (.exit 0)))
 (.block 1 (.seq (.ops [q 0 20 (oMv (t 5)),
 q 1 21 (oMv (t 5)),
 r 2 22 (oLen .slice (t 21)),
 q 3 23 (oArith .sub (t 22) (i 1)),
 q 4 24 (oIdxS 2 (t 20) (t 23)),
 q 5 6 (oMv (t 24))])
 (.seq (.drawn [q 0 25 (oMv (t 6)),
 q 1 26 (oNilCheck (t 25)),
 q 2 27 (oFieldAddr 0 (t 26)),
 r 3 28 (oLoad (t 27)),
 q 4 29 (oMv (t 6)),
 q 5 30 (oNilCheck (t 29)),
 q 6 31 (oFieldAddr 1 (t 30)),
 r 7 32 (oLoad (t 31)),
 q 8 7 (oMv (t 28)),
 q 9 8 (oMv (t 32))])
 (.seq (.seq (.ops [q 0 33 (oMv (t 8)),
 q 1 34 (oMv (t 0)),
 q 2 35 (oNilCheck (t 34)),
 q 3 36 (oFieldAddr 6 (t 35)),
 q 4 37 (oFieldAddr 3 (t 36)),
 r 5 38 (oLoad (t 37)),
 q 6 39 (oMv (t 7)),
 q 7 40 (oIdxS 1 (t 38) (t 39)),
 r 8 41 (oLoad (t 40)),
 r 9 42 (oLen .slice (t 41)),
 q 10 43 (oArith .lss (t 33) (t 42))])
 (.cond (t 43) (.seq (.ops [q 0 44 (oMv (t 0)),
 q 1 45 (oNilCheck (t 44)),
 q 2 46 (oFieldAddr 6 (t 45)),
 q 3 47 (oFieldAddr 3 (t 46)),
 r 4 48 (oLoad (t 47)),
 q 5 49 (oMv (t 7)),
 q 6 50 (oIdxS 1 (t 48) (t 49)),
 r 7 51 (oLoad (t 50)),
 q 8 52 (oMv (t 8)),
 q 9 53 (oIdxS 1 (t 51) (t 52)),
 r 10 54 (oLoad (t 53)),
 q 11 9 (oMv (t 54))])
 (.seq (.ops [q 0 55 (oMv (t 9)),
 q 1 56 (oArith .quo (t 55) (i 2)),
 q 2 10 (oMv (t 56))])
 (.seq (.drawn [q 0 57 (oMv (t 0)),
 q 1 58 (oNilCheck (t 57)),
 q 2 59 (oFieldAddr 13 (t 58)),
 r 3 60 (oLoad (t 59)),
 q 4 61 (oMv (t 10)),
 q 5 62 (oMv (t 0)),
 q 6 63 (oNilCheck (t 62)),
 q 7 64 (oFieldAddr 10 (t 63)),
 r 8 65 (oLoad (t 64)),
 r 9 66 (oLen .slice (t 65)),
 q 10 67 (oIdxS 1 (t 60) (t 61)),
 h0 11 (oStore 1 (t 67) (t 66))])
 (.seq (.ops [q 0 69 (oMv (t 0)),
 q 1 70 (oMv (t 10)),
 c 2 71 176 [(t 69), (t 70)],
 q 3 68 (oMv (t 71)),
 q 4 72 (oExtract 0 (t 68)),
 q 5 73 (oExtract 1 (t 68)),
 q 6 11 (oMv (t 72)),
 q 7 12 (oMv (t 73))])
 (.seq (.seq (.ops [q 0 74 (oMv (t 0)),
 q 1 75 (oNilCheck (t 74)),
 q 2 76 (oFieldAddr 2 (t 75)),
 q 3 77 (oFieldAddr 0 (t 76)),
 r 4 78 (oLoad (t 77)),
 q 5 79 (oMv (t 12)),
 q 6 80 (oIdxS 1 (t 78) (t 79)),
 r 7 81 (oLoad (t 80)),
 q 8 82 (oMv (t 9)),
 q 9 83 (oArith .eql (t 81) (t 82))])
 (.cond (t 83) (.seq (.ops [q 0 84 (oMv (t 5)),
 q 1 85 (oMv (t 12)),
 q 2 86 (oBuild [(.int .i64 0), (.int .i64 0)] [(0, 1), (1, 1)] [(t 85), (i 0)]),
 q 3 87 (oBuildSlice 2 1 [(.int .i64 0), (.int .i64 0)] [(0, 2)] [(t 86)]),
 h 4 88 (oAppend 2 16 (t 84) (t 87)),
 q 5 5 (oMv (t 88))])
 (.exit 1))
 (.skip)))
 (.seq (.ops [q 0 89 (oMv (t 0)),
 q 1 90 (oNilCheck (t 89)),
 q 2 91 (oFieldAddr 14 (t 90)),
 r 3 92 (oLoad (t 91)),
 q 4 93 (oMv (t 10)),
 q 5 94 (oMv (t 10)),
 q 6 95 (oIdxS 1 (t 92) (t 93)),
 h0 7 (oStore 1 (t 95) (t 94))])
 (.seq (.drawn [q 0 96 (oMv (t 0)),
 q 1 97 (oMv (t 0)),
 q 2 98 (oNilCheck (t 97)),
 q 3 99 (oFieldAddr 10 (t 98)),
 r 4 100 (oLoad (t 99)),
 r 5 101 (oLoadN 2 (.val (.pointer (some ⟨0, 0, none⟩)))),
 q 6 102 (oMv (t 10)),
 q 7 103 (oMv (t 10)),
 q 8 104 (oBuild [(.int .i64 0), (.int .i64 0)] [(0, 1), (1, 1)] [(t 102), (t 103)]),
 q 9 105 (oBuild [(.int .i64 0), (.int .i64 0), (.int .i64 0), (.int .i64 0)] [(0, 2), (2, 2)] [(t 101), (t 104)]),
 q 10 106 (oBuildSlice 4 1 [(.int .i64 0), (.int .i64 0), (.int .i64 0), (.int .i64 0)] [(0, 4)] [(t 105)]),
 h 11 107 (oAppend 4 32 (t 100) (t 106)),
 q 12 108 (oNilCheck (t 96)),
 q 13 109 (oFieldAddr 10 (t 108)),
 h0 14 (oStore 1 (t 109) (t 107))])
 (.seq (.ops [q 0 110 (oMv (t 6)),
 q 1 111 (oNilCheck (t 110)),
 q 2 112 (oFieldAddr 1 (t 111)),
 r 3 113 (oLoad (t 112)),
 q 4 114 (oArith .add (t 113) (i 1)),
 q 5 115 (oNilCheck (t 110)),
 q 6 116 (oFieldAddr 1 (t 115)),
 h0 7 (oStore 1 (t 116) (t 114))])
 (.seq (.seq (.ops [q 0 117 (oMv (t 0)),
 q 1 118 (oMv (t 7)),
 q 2 119 (oMv (t 8)),
 c 3 120 200 [(t 117), (t 118), (t 119)],
 q 4 121 (oNot (t 120))])
 (.cond (t 121) (.seq (.ops [q 0 4 (oMv (b false))])
 (.ret))
 (.skip)))
 (.exit 1))))))))))
 (.skip)))
 (.seq (.ops [q 0 122 (oMv (t 5)),
 q 1 123 (oMv (t 5)),
 r 2 124 (oLen .slice (t 123)),
 q 3 125 (oArith .sub (t 124) (i 1)),
 q 4 126 (oSlice 2 (t 122) none (some (t 125)) none),
 q 5 5 (oMv (t 126))])
 (.seq (.seq (.ops [q 0 127 (oMv (t 5)),
 r 1 128 (oLen .slice (t 127)),
 q 2 129 (oArith .eql (t 128) (i 0))])
 (.cond (t 129) (.seq (.ops [q 0 4 (oMv (b true))])
 (.ret))
 (.skip)))
 (.seq (.ops [q 0 130 (oMv (t 5)),
 q 1 131 (oMv (t 5)),
 r 2 132 (oLen .slice (t 131)),
 q 3 133 (oArith .sub (t 132) (i 1)),
 q 4 134 (oIdxS 2 (t 130) (t 133)),
 q 5 13 (oMv (t 134))])
 (.seq (.drawn [q 0 135 (oMv (t 0)),
 q 1 136 (oMv (t 0)),
 q 2 137 (oMv (t 7)),
 q 4 139 (oMv (t 13)),
 q 5 140 (oNilCheck (t 139)),
 q 6 141 (oFieldAddr 0 (t 140)),
 r 7 142 (oLoad (t 141)),
 ⟨3, some 138, none, .callF 177 [(t 136), (t 137)], [7]⟩,
 c 8 143 201 [(t 135), (t 138), (t 142)]])
 (.seq (.ops [q 0 144 (oMv (t 13)),
 q 1 145 (oNilCheck (t 144)),
 q 2 146 (oFieldAddr 1 (t 145)),
 r 3 147 (oLoad (t 146)),
 q 4 148 (oArith .add (t 147) (i 1)),
 q 5 149 (oNilCheck (t 144)),
 q 6 150 (oFieldAddr 1 (t 149)),
 h0 7 (oStore 1 (t 150) (t 148))])
 (.seq (.drawn [q 0 151 (oMv (t 0)),
 q 1 152 (oMv (t 13)),
 q 2 153 (oNilCheck (t 152)),
 q 3 154 (oFieldAddr 0 (t 153)),
 r 4 155 (oLoad (t 154)),
 q 5 156 (oMv (t 13)),
 q 6 157 (oNilCheck (t 156)),
 q 7 158 (oFieldAddr 1 (t 157)),
 r 8 159 (oLoad (t 158)),
 q 9 160 (oArith .sub (t 159) (i 1)),
 c 10 161 200 [(t 151), (t 155), (t 160)],
 q 11 162 (oNot (t 161))])
 (.cond (t 162) (.seq (.ops [q 0 4 (oMv (b false))])
 (.ret))
 (.skip)))))))))))))))
 (.seq (.ops [q 0 4 (oMv (b true))])
 (.ret)))))⟩
/-- (*tangram/lr.test).sides -/
noncomputable def a115 : AF := ⟨[.tmp 2],
 (.seq (.ops [q 0 2 (oMv (.val (.slice none 0 0)))])
 (.seq (.ops [q 0 10 (oMv (t 0)),
 q 1 11 (oNilCheck (t 10)),
 q 2 12 (oFieldAddr 0 (t 11)),
 q 3 13 (oFieldAddr 1 (t 12)),
 r 4 14 (oLoad (t 13)),
 r 5 15 (oLen .slice (t 14)),
 q 6 16 (oMkSlice 1 8 [(.int .i64 0)] (t 15) (t 15)),
 q 7 3 (oMv (t 16))])
 (.seq (.seq (.ops [q 0 17 (oMv (t 3)),
 r 1 18 (oLen .slice (t 17)),
 q 2 19 (oMv (i 0))])
 (.block 0 (.loop (.seq (.ops [q 0 20 (oArith .lss (t 19) (t 18))])
 (.seq (.cond (t 20) (.skip)
 (.exit 0))
 (.seq (.block 1 (.seq (.ops [q 0 21 (oMv (t 19)),
 q 1 4 (oMv (t 21))])
 (.seq (.ops [q 0 5 (oMv (.val (.slice none 0 0)))])
 (.seq (.seq (.ops [q 0 22 (oMv (t 4)),
 q 1 6 (oMv (t 22))])
 (.block 2 (.loop (.seq (.seq (.ops [q 0 23 (oMv (t 6)),
 q 1 24 (oArith .neq (t 23) (i (-1)))])
 (.cond (t 24) (.skip)
 (.exit 2)))
 (.seq (.block 3 (.ops [q 0 32 (oMv (t 5)),
 q 1 33 (oMv (t 6)),
 q 2 34 (oBuildSlice 1 1 [(.int .i64 0)] [(0, 1)] [(t 33)]),
 h 3 35 (oAppend 1 8 (t 32) (t 34)),
 q 4 5 (oMv (t 35))]))
 (.ops [q 0 25 (oMv (t 0)),
 q 1 26 (oNilCheck (t 25)),
 q 2 27 (oFieldAddr 11 (t 26)),
 r 3 28 (oLoad (t 27)),
 q 4 29 (oMv (t 6)),
 q 5 30 (oIdxS 1 (t 28) (t 29)),
 r 6 31 (oLoad (t 30)),
 q 7 6 (oMv (t 31))]))))))
 (.seq (.seq (.ops [q 0 36 (oMv (t 5)),
 r 1 37 (oLen .slice (t 36)),
 q 2 38 (oArith .sub (t 37) (i 2)),
 q 3 7 (oMv (t 38))])
 (.block 4 (.loop (.seq (.seq (.ops [q 0 39 (oMv (t 7)),
 q 1 40 (oArith .geq (t 39) (i 0))])
 (.cond (t 40) (.skip)
 (.exit 4)))
 (.seq (.block 5 (.seq (.drawn [q 0 43 (oMv (t 0)),
 q 1 44 (oNilCheck (t 43)),
 q 2 45 (oFieldAddr 12 (t 44)),
 r 3 46 (oLoad (t 45)),
 q 4 47 (oMv (t 5)),
 q 5 48 (oMv (t 7)),
 q 6 49 (oIdxS 1 (t 47) (t 48)),
 r 7 50 (oLoad (t 49)),
 q 8 51 (oIdxS 1 (t 46) (t 50)),
 r 9 52 (oLoad (t 51)),
 q 10 53 (oMv (t 0)),
 q 11 54 (oNilCheck (t 53)),
 q 12 55 (oFieldAddr 12 (t 54)),
 r 13 56 (oLoad (t 55)),
 q 14 57 (oMv (t 5)),
 q 15 58 (oMv (t 7)),
 q 16 59 (oArith .add (t 58) (i 1)),
 q 17 60 (oIdxS 1 (t 57) (t 59)),
 r 18 61 (oLoad (t 60)),
 q 19 62 (oIdxS 1 (t 56) (t 61)),
 r 20 63 (oLoad (t 62)),
 q 21 64 (oArith .mul (t 52) (t 63)),
 q 22 65 (oIdxS 1 (t 46) (t 50)),
 h0 23 (oStore 1 (t 65) (t 64))])
 (.drawn [q 0 66 (oMv (t 0)),
 q 1 67 (oNilCheck (t 66)),
 q 2 68 (oFieldAddr 11 (t 67)),
 r 3 69 (oLoad (t 68)),
 q 4 70 (oMv (t 5)),
 q 5 71 (oMv (t 7)),
 q 6 72 (oIdxS 1 (t 70) (t 71)),
 r 7 73 (oLoad (t 72)),
 q 8 74 (oIdxS 1 (t 69) (t 73)),
 h0 9 (oStore 1 (t 74) (i (-1)))])))
 (.ops [q 0 41 (oMv (t 7)),
 q 1 42 (oArith .sub (t 41) (i 1)),
 q 2 7 (oMv (t 42))]))))))
 (.seq (.ops [q 0 76 (oMv (t 0)),
 q 1 77 (oMv (t 4)),
 c 2 78 176 [(t 76), (t 77)],
 q 3 75 (oMv (t 78)),
 q 4 79 (oExtract 0 (t 75)),
 q 5 80 (oExtract 1 (t 75)),
 q 6 8 (oMv (t 79)),
 q 7 9 (oMv (t 80))])
 (.seq (.drawn [q 0 81 (oMv (t 0)),
 q 1 82 (oNilCheck (t 81)),
 q 2 83 (oFieldAddr 2 (t 82)),
 q 3 84 (oFieldAddr 0 (t 83)),
 r 4 85 (oLoad (t 84)),
 q 5 86 (oMv (t 9)),
 q 6 87 (oIdxS 1 (t 85) (t 86)),
 r 7 88 (oLoad (t 87)),
 q 8 89 (oMv (t 0)),
 q 9 90 (oNilCheck (t 89)),
 q 10 91 (oFieldAddr 2 (t 90)),
 q 11 92 (oFieldAddr 3 (t 91)),
 r 12 93 (oLoad (t 92)),
 q 13 94 (oMv (t 4)),
 q 14 95 (oIdxS 1 (t 93) (t 94)),
 r 15 96 (oLoad (t 95)),
 q 16 97 (oArith .neq (t 88) (t 96))])
 (.cond (t 97) (.ops [q 0 98 (oMv (t 3)),
 q 1 99 (oMv (t 4)),
 q 2 100 (oMv (t 0)),
 q 3 101 (oNilCheck (t 100)),
 q 4 102 (oFieldAddr 12 (t 101)),
 r 5 103 (oLoad (t 102)),
 q 6 104 (oMv (t 4)),
 q 7 105 (oIdxS 1 (t 103) (t 104)),
 r 8 106 (oLoad (t 105)),
 q 9 107 (oIdxS 1 (t 98) (t 99)),
 h0 10 (oStore 1 (t 107) (t 106))])
 (.skip)))))))))
 (.ops [q 0 108 (oArith .add (t 19) (i 1)),
 q 1 19 (oMv (t 108))])))))))
 (.seq (.ops [q 0 109 (oMv (t 3)),
 q 1 2 (oMv (t 109))])
 (.ret)))))⟩
/-- tangram/csr.New$1 -/
noncomputable def a151 : AF := ⟨[],
 (.seq (.drawn [r 0 5 (oLoad (t 1)),
 r 1 6 (oLoad (t 2)),
 q 2 7 (oNilCheck (t 6)),
 q 3 8 (oFieldAddr 0 (t 7)),
 r 4 9 (oLoad (t 8)),
 q 5 10 (oMv (t 0)),
 q 6 11 (oIdxS 1 (t 9) (t 10)),
 r 7 12 (oLoad (t 11)),
 q 8 13 (oIdxS 1 (t 5) (t 12)),
 r 9 14 (oLoad (t 13)),
 q 10 4 (oMv (t 14))])
 (.seq (.drawn [r 0 15 (oLoad (t 2)),
 q 1 16 (oNilCheck (t 15)),
 q 2 17 (oFieldAddr 2 (t 16)),
 r 3 18 (oLoad (t 17)),
 q 4 19 (oMv (t 4)),
 r 5 20 (oLoad (t 2)),
 q 6 21 (oNilCheck (t 20)),
 q 7 22 (oFieldAddr 3 (t 21)),
 r 8 23 (oLoad (t 22)),
 q 9 24 (oMv (t 0)),
 q 10 25 (oMv (t 0)),
 q 11 26 (oMv (t 4)),
 q 12 27 (oIdxS 1 (t 18) (t 19)),
 h0 13 (oStore 1 (t 27) (t 25)),
 q 14 28 (oIdxS 1 (t 23) (t 24)),
 h0 15 (oStore 1 (t 28) (t 26))])
 (.drawn [r 0 29 (oLoad (t 1)),
 r 1 30 (oLoad (t 2)),
 q 2 31 (oNilCheck (t 30)),
 q 3 32 (oFieldAddr 0 (t 31)),
 r 4 33 (oLoad (t 32)),
 q 5 34 (oMv (t 0)),
 q 6 35 (oIdxS 1 (t 33) (t 34)),
 r 7 36 (oLoad (t 35)),
 q 8 37 (oIdxS 1 (t 29) (t 36)),
 r 9 38 (oLoad (t 37)),
 q 10 39 (oArith .add (t 38) (i 1)),
 q 11 40 (oIdxS 1 (t 29) (t 36)),
 h0 12 (oStore 1 (t 40) (t 39))])))⟩
/-- tangram/colour.used -/
noncomputable def a152 : AF := ⟨[.cellN 6 5],
 (.seq (.ops [q 0 3 (oBox (t 0)),
 q 1 4 (oBox (t 1)),
 q 2 6 (oAlloc [(.int .i64 0), (.int .i64 0), (.int .i64 0), (.int .i64 0), (.int .i64 0)])])
 (.seq (.ops [q 0 7 (oAlloc [(.int .i64 0), (.int .i64 0), (.int .i64 0), (.int .i64 0), (.int .i64 0)])])
 (.seq (.seq (.ops [q 0 11 (oMv (i 0))])
 (.block 0 (.loop (.seq (.ops [q 0 12 (oArith .lss (t 11) (i 5))])
 (.seq (.cond (t 12) (.skip)
 (.exit 0))
 (.seq (.block 1 (.seq (.ops [q 0 13 (oMv (t 11)),
 q 1 8 (oMv (t 13))])
 (.ops [q 0 14 (oMv (t 8)),
 q 1 15 (oIdxA 1 5 (t 7) (t 14)),
 h0 2 (oStore 1 (t 15) (i (-1)))])))
 (.ops [q 0 16 (oArith .add (t 11) (i 1)),
 q 1 11 (oMv (t 16))])))))))
 (.seq (.seq (.ops [r 0 17 (oLoad (t 3)),
 q 1 18 (oMv (t 2)),
 c 2 19 97 [(t 17), (t 18)]])
 (.block 2 (.range (t 19) 152019)))
 (.seq (.ops [r 0 35 (oLoadN 5 (t 7)),
 h0 1 (oStore 5 (t 6) (t 35))])
 (.ret))))))⟩
noncomputable def l152019 : AL := ⟨[20],
 (.ops [q 0 9 (oMv (t 20))]),
 (.block 3 (.seq (.ops [r 0 21 (oLoad (t 3)),
 q 1 22 (oMv (t 9)),
 c 2 23 98 [(t 21), (t 22)],
 q 3 10 (oMv (t 23))])
 (.seq (.ops [r 0 24 (oLoad (t 4)),
 q 1 25 (oMv (t 10)),
 q 2 26 (oIdxS 1 (t 24) (t 25)),
 r 3 27 (oLoad (t 26)),
 q 4 28 (oArith .geq (t 27) (i 0))])
 (.cond (t 28) (.ops [r 0 29 (oLoad (t 4)),
 q 1 30 (oMv (t 10)),
 q 2 31 (oIdxS 1 (t 29) (t 30)),
 r 3 32 (oLoad (t 31)),
 q 4 33 (oMv (t 10)),
 q 5 34 (oIdxA 1 5 (t 7) (t 32)),
 h0 6 (oStore 1 (t 34) (t 33))])
 (.skip)))))⟩
/-- slices.Index[[]int,int] -/
noncomputable def a153 : AF := ⟨[.tmp 4],
 (.seq (.ops [q 0 4 (oMv (i 0))])
 (.seq (.seq (.ops [q 0 6 (oMv (t 0)),
 r 1 7 (oLen .slice (t 6)),
 q 2 8 (oMv (i 0))])
 (.block 0 (.loop (.seq (.ops [q 0 9 (oArith .lss (t 8) (t 7))])
 (.seq (.cond (t 9) (.skip)
 (.exit 0))
 (.seq (.block 1 (.seq (.ops [q 0 10 (oMv (t 8)),
 q 1 5 (oMv (t 10))])
 (.seq (.ops [q 0 11 (oMv (t 1)),
 q 1 12 (oMv (t 0)),
 q 2 13 (oMv (t 5)),
 q 3 14 (oIdxS 1 (t 12) (t 13)),
 r 4 15 (oLoad (t 14)),
 q 5 16 (oArith .eql (t 11) (t 15))])
 (.cond (t 16) (.seq (.ops [q 0 17 (oMv (t 5)),
 q 1 4 (oMv (t 17))])
 (.ret))
 (.skip)))))
 (.ops [q 0 18 (oArith .add (t 8) (i 1)),
 q 1 8 (oMv (t 18))])))))))
 (.seq (.ops [q 0 4 (oMv (i (-1)))])
 (.ret))))⟩
/-- tangram/simple.compare -/
noncomputable def a154 : AF := ⟨[.tmp 4],
 (.seq (.ops [q 0 2 (oBox (t 0)),
 q 1 3 (oBox (t 1)),
 q 2 4 (oMv (i 0))])
 (.seq (.seq (.ops [q 0 5 (oFieldAddr 0 (t 2)),
 r 1 6 (oLoad (t 5)),
 q 2 7 (oFieldAddr 0 (t 3)),
 r 3 8 (oLoad (t 7)),
 q 4 9 (oArith .neq (t 6) (t 8))])
 (.cond (t 9) (.seq (.ops [q 0 10 (oFieldAddr 0 (t 2)),
 r 1 11 (oLoad (t 10)),
 q 2 12 (oFieldAddr 0 (t 3)),
 r 3 13 (oLoad (t 12)),
 q 4 14 (oArith .sub (t 11) (t 13)),
 q 5 4 (oMv (t 14))])
 (.ret))
 (.skip)))
 (.seq (.ops [q 0 15 (oFieldAddr 1 (t 2)),
 r 1 16 (oLoad (t 15)),
 q 2 17 (oFieldAddr 1 (t 3)),
 r 3 18 (oLoad (t 17)),
 q 4 19 (oArith .sub (t 16) (t 18)),
 q 5 4 (oMv (t 19))])
 (.ret))))⟩
/-- (*tangram/csr.Adj).leave -/
noncomputable def a155 : AF := ⟨[.tmp 4],
 (.seq (.ops [q 0 4 (oMv (.val (.slice none 0 0)))])
 (.seq (.seq (.ops [q 0 5 (oMv (t 0)),
 q 1 6 (oMv (t 1)),
 c 2 7 284 [(t 5), (t 6)],
 q 3 8 (oNot (t 7))])
 (.cond (t 8) (.seq (.ops [q 0 4 (oMv (.val (.slice none 0 0)))])
 (.ret))
 (.skip)))
 (.seq (.drawn [q 0 9 (oMv (t 0)),
 q 1 10 (oNilCheck (t 9)),
 q 2 11 (oFieldAddr 2 (t 10)),
 r 3 12 (oLoad (t 11)),
 q 4 13 (oMv (t 0)),
 q 5 14 (oNilCheck (t 13)),
 q 6 15 (oFieldAddr 1 (t 14)),
 r 7 16 (oLoad (t 15)),
 q 8 17 (oMv (t 1)),
 q 9 18 (oIdxS 1 (t 16) (t 17)),
 r 10 19 (oLoad (t 18)),
 q 11 20 (oMv (t 0)),
 q 12 21 (oNilCheck (t 20)),
 q 13 22 (oFieldAddr 1 (t 21)),
 r 14 23 (oLoad (t 22)),
 q 15 24 (oMv (t 1)),
 q 16 25 (oArith .add (t 24) (i 1)),
 q 17 26 (oIdxS 1 (t 23) (t 25)),
 r 18 27 (oLoad (t 26)),
 q 19 28 (oSlice 1 (t 12) (some (t 19)) (some (t 27)) none),
 q 20 4 (oMv (t 28))])
 (.ret))))⟩
/-- container/heap.down -/
noncomputable def a156 : AF := ⟨[.tmp 6],
 (.seq (.ops [q 0 6 (oMv (b false))])
 (.seq (.ops [q 0 11 (oMv (t 1)),
 q 1 7 (oMv (t 11))])
 (.seq (.block 0 (.loop (.block 1 (.seq (.ops [q 0 12 (oMv (t 7)),
 q 1 13 (oArith .mul (i 2) (t 12)),
 q 2 14 (oArith .add (t 13) (i 1)),
 q 3 8 (oMv (t 14))])
 (.seq (.seq (.ops [q 0 15 (oMv (t 8)),
 q 1 16 (oMv (t 2)),
 q 2 17 (oArith .geq (t 15) (t 16)),
 q 3 18 (oMv (t 17)),
 qg 4 19 18 false (oMv (t 8)),
 qg 5 20 18 false (oArith .lss (t 19) (i 0)),
 q 6 21 (oPick (t 18) (b true) (t 20))])
 (.cond (t 21) (.exit 0)
 (.skip)))
 (.seq (.ops [q 0 22 (oMv (t 8)),
 q 1 9 (oMv (t 22))])
 (.seq (.seq (.ops [q 0 23 (oMv (t 8)),
 q 1 24 (oArith .add (t 23) (i 1)),
 q 2 10 (oMv (t 24))])
 (.seq (.ops [q 0 25 (oMv (t 10)),
 q 1 26 (oMv (t 2)),
 q 2 27 (oArith .lss (t 25) (t 26)),
 q 3 28 (oMv (t 27)),
 qg 4 29 28 true (oMv (t 0)),
 qg 5 30 28 true (oMv (t 10)),
 qg 6 31 28 true (oMv (t 8)),
 ⟨7, some 32, some (28, true), .invoke "Less" (t 29) [(t 30), (t 31)], []⟩,
 q 8 33 (oPick (t 28) (t 32) (b false))])
 (.cond (t 33) (.ops [q 0 34 (oMv (t 10)),
 q 1 9 (oMv (t 34))])
 (.skip))))
 (.seq (.seq (.ops [q 0 35 (oMv (t 0)),
 q 1 36 (oMv (t 9)),
 q 2 37 (oMv (t 7)),
 ⟨3, some 38, none, .invoke "Less" (t 35) [(t 36), (t 37)], []⟩,
 q 4 39 (oNot (t 38))])
 (.cond (t 39) (.exit 0)
 (.skip)))
 (.seq (.ops [q 0 40 (oMv (t 0)),
 q 1 41 (oMv (t 7)),
 q 2 42 (oMv (t 9)),
 ⟨3, some 43, none, .invoke "Swap" (t 40) [(t 41), (t 42)], []⟩])
 (.ops [q 0 44 (oMv (t 9)),
 q 1 7 (oMv (t 44))]))))))))))
 (.seq (.ops [q 0 45 (oMv (t 7)),
 q 1 46 (oMv (t 1)),
 q 2 47 (oArith .gtr (t 45) (t 46)),
 q 3 6 (oMv (t 47))])
 (.ret)))))⟩
/-- (*tangram/csr.Adj).Out$1 -/
noncomputable def a157 : AF := ⟨[],
 (.seq (.ops [r 0 6 (oLoad (t 1)),
 r 1 7 (oLoad (t 2)),
 c 2 8 155 [(t 6), (t 7)],
 r 3 9 (oLen .slice (t 8)),
 q 4 10 (oMv (i 0))])
 (.block 0 (.loop (.seq (.ops [q 0 11 (oArith .lss (t 10) (t 9))])
 (.seq (.cond (t 11) (.skip)
 (.exit 0))
 (.seq (.block 1 (.seq (.ops [q 0 12 (oIdxS 1 (t 8) (t 10)),
 r 1 13 (oLoad (t 12)),
 q 2 5 (oMv (t 13))])
 (.seq (.ops [q 0 14 (oMv (t 0)),
 q 1 15 (oMv (t 5)),
 ⟨2, some 16, none, .call (t 14) [(t 15)], []⟩,
 q 3 17 (oNot (t 16))])
 (.cond (t 17) (.ret)
 (.skip)))))
 (.ops [q 0 18 (oArith .add (t 10) (i 1)),
 q 1 10 (oMv (t 18))])))))))⟩
/-- (*tangram/csr.Adj).half -/
noncomputable def a158 : AF := ⟨[.tmp 4],
 (.seq (.ops [q 0 4 (oMv (b false))])
 (.seq (.ops [q 0 5 (oMv (t 1)),
 q 1 6 (oArith .geq (t 5) (i 0)),
 q 2 7 (oMv (t 6)),
 qg 3 8 7 true (oMv (t 1)),
 qg 4 9 7 true (oMv (t 0)),
 ⟨5, some 10, some (7, true), .callF 166 [(t 9)], []⟩,
 qg 6 11 7 true (oArith .mul (i 2) (t 10)),
 qg 7 12 7 true (oArith .lss (t 8) (t 11)),
 q 8 13 (oPick (t 7) (t 12) (b false)),
 q 9 4 (oMv (t 13))])
 (.ret)))⟩
/-- container/heap.up -/
noncomputable def a159 : AF := ⟨[],
 (.block 0 (.loop (.block 1 (.seq (.ops [q 0 5 (oMv (t 1)),
 q 1 6 (oArith .sub (t 5) (i 1)),
 q 2 7 (oArith .quo (t 6) (i 2)),
 q 3 4 (oMv (t 7))])
 (.seq (.seq (.ops [q 0 8 (oMv (t 4)),
 q 1 9 (oMv (t 1)),
 q 2 10 (oArith .eql (t 8) (t 9)),
 q 3 11 (oMv (t 10)),
 qg 4 12 11 false (oMv (t 0)),
 qg 5 13 11 false (oMv (t 1)),
 qg 6 14 11 false (oMv (t 4)),
 ⟨7, some 15, some (11, false), .invoke "Less" (t 12) [(t 13), (t 14)], []⟩,
 qg 8 16 11 false (oNot (t 15)),
 q 9 17 (oPick (t 11) (b true) (t 16))])
 (.cond (t 17) (.exit 0)
 (.skip)))
 (.seq (.ops [q 0 18 (oMv (t 0)),
 q 1 19 (oMv (t 4)),
 q 2 20 (oMv (t 1)),
 ⟨3, some 21, none, .invoke "Swap" (t 18) [(t 19), (t 20)], []⟩])
 (.ops [q 0 22 (oMv (t 4)),
 q 1 1 (oMv (t 22))])))))))⟩
/-- tangram/dfs.filled -/
noncomputable def a165 : AF := ⟨[.tmp 4],
 (.seq (.ops [q 0 4 (oMv (.val (.slice none 0 0)))])
 (.seq (.ops [q 0 7 (oMv (t 0)),
 q 1 8 (oMkSlice 1 8 [(.int .i64 0)] (t 7) (t 7)),
 q 2 5 (oMv (t 8))])
 (.seq (.seq (.ops [q 0 9 (oMv (t 5)),
 r 1 10 (oLen .slice (t 9)),
 q 2 11 (oMv (i 0))])
 (.block 0 (.loop (.seq (.ops [q 0 12 (oArith .lss (t 11) (t 10))])
 (.seq (.cond (t 12) (.skip)
 (.exit 0))
 (.seq (.block 1 (.seq (.ops [q 0 13 (oMv (t 11)),
 q 1 6 (oMv (t 13))])
 (.ops [q 0 14 (oMv (t 5)),
 q 1 15 (oMv (t 6)),
 q 2 16 (oMv (t 1)),
 q 3 17 (oIdxS 1 (t 14) (t 15)),
 h0 4 (oStore 1 (t 17) (t 16))])))
 (.ops [q 0 18 (oArith .add (t 11) (i 1)),
 q 1 11 (oMv (t 18))])))))))
 (.seq (.ops [q 0 19 (oMv (t 5)),
 q 1 4 (oMv (t 19))])
 (.ret)))))⟩
/-- (*tangram/csr.Adj).M -/
noncomputable def a166 : AF := ⟨[.tmp 2],
 (.seq (.ops [q 0 2 (oMv (i 0))])
 (.seq (.seq (.ops [q 0 3 (oMv (t 0)),
 q 1 4 (oEq false .ptrNil (t 3) (.val (.pointer none)))])
 (.cond (t 4) (.seq (.ops [q 0 2 (oMv (i 0))])
 (.ret))
 (.skip)))
 (.seq (.ops [q 0 5 (oMv (t 0)),
 q 1 6 (oNilCheck (t 5)),
 q 2 7 (oFieldAddr 0 (t 6)),
 r 3 8 (oLoad (t 7)),
 r 4 9 (oLen .slice (t 8)),
 q 5 10 (oArith .quo (t 9) (i 2)),
 q 6 2 (oMv (t 10))])
 (.ret))))⟩
/-- tangram/dfs.Walk$1 -/
noncomputable def a167 : AF := ⟨[],
 (.seq (.drawn [q 0 9 (oFieldAddr 0 (t 3)),
 r 1 10 (oLoad (t 9)),
 q 2 11 (oMv (t 0)),
 q 3 12 (oFieldAddr 1 (t 3)),
 r 4 13 (oLoad (t 12)),
 q 5 14 (oMv (t 0)),
 q 6 15 (oMv (t 1)),
 q 7 16 (oMv (t 2)),
 q 8 17 (oIdxS 1 (t 10) (t 11)),
 ⟨9, none, none, .op .hard (oStore 1 (t 17) (t 15)), [4]⟩,
 q 10 18 (oIdxS 1 (t 13) (t 14)),
 h0 11 (oStore 1 (t 18) (t 16))])
 (.seq (.ops [q 0 19 (oFieldAddr 2 (t 3)),
 r 1 20 (oLoad (t 19)),
 q 2 21 (oMv (t 0)),
 q 3 22 (oBuildSlice 1 1 [(.int .i64 0)] [(0, 1)] [(t 21)]),
 h 4 23 (oAppend 1 8 (t 20) (t 22)),
 q 5 24 (oFieldAddr 2 (t 3)),
 h0 6 (oStore 1 (t 24) (t 23))])
 (.ops [q 0 25 (oMv (t 0)),
 r 1 26 (oLoad (t 5)),
 q 2 27 (oMv (t 0)),
 c 3 28 169 [(t 26), (t 27)],
 q 4 29 (oBuild [(.int .i64 0), (.int .i64 0)] [(0, 1), (1, 1)] [(t 25), (t 28)]),
 c 5 30 168 [(t 4), (t 29)]])))⟩
/-- (*tangram/dfs.stack[tangram/dfs.look]).push -/
noncomputable def a168 : AF := ⟨[],
 (.seq (.ops [q 0 3 (oBox (t 1))])
 (.drawn [q 0 4 (oMv (t 0)),
 q 1 5 (oMv (t 0)),
 q 2 6 (oNilCheck (t 5)),
 q 3 7 (oFieldAddr 0 (t 6)),
 r 4 8 (oLoad (t 7)),
 r 5 9 (oLoadN 2 (t 3)),
 q 6 10 (oBuildSlice 2 1 [(.int .i64 0), (.int .i64 0)] [(0, 2)] [(t 9)]),
 h 7 11 (oAppend 2 16 (t 8) (t 10)),
 q 8 12 (oNilCheck (t 4)),
 q 9 13 (oFieldAddr 0 (t 12)),
 h0 10 (oStore 1 (t 13) (t 11))]))⟩
/-- (*tangram/csr.Adj).First -/
noncomputable def a169 : AF := ⟨[.tmp 4],
 (.seq (.ops [q 0 4 (oMv (i 0))])
 (.seq (.seq (.ops [q 0 5 (oMv (t 0)),
 q 1 6 (oMv (t 1)),
 c 2 7 93 [(t 5), (t 6)],
 q 3 8 (oArith .eql (t 7) (i 0))])
 (.cond (t 8) (.seq (.ops [q 0 4 (oMv (i (-1)))])
 (.ret))
 (.skip)))
 (.seq (.drawn [q 0 9 (oMv (t 0)),
 q 1 10 (oNilCheck (t 9)),
 q 2 11 (oFieldAddr 2 (t 10)),
 r 3 12 (oLoad (t 11)),
 q 4 13 (oMv (t 0)),
 q 5 14 (oNilCheck (t 13)),
 q 6 15 (oFieldAddr 1 (t 14)),
 r 7 16 (oLoad (t 15)),
 q 8 17 (oMv (t 1)),
 q 9 18 (oIdxS 1 (t 16) (t 17)),
 r 10 19 (oLoad (t 18)),
 q 11 20 (oIdxS 1 (t 12) (t 19)),
 r 12 21 (oLoad (t 20)),
 q 13 4 (oMv (t 21))])
 (.ret))))⟩
/-- (*tangram/dfs.stack[tangram/dfs.look]).some -/
noncomputable def a170 : AF := ⟨[.tmp 2],
 (.seq (.ops [q 0 2 (oMv (b false))])
 (.seq (.ops [q 0 3 (oMv (t 0)),
 q 1 4 (oNilCheck (t 3)),
 q 2 5 (oFieldAddr 0 (t 4)),
 r 3 6 (oLoad (t 5)),
 r 4 7 (oLen .slice (t 6)),
 q 5 8 (oArith .gtr (t 7) (i 0)),
 q 6 2 (oMv (t 8))])
 (.ret)))⟩
/-- (*tangram/dfs.stack[tangram/dfs.look]).top -/
noncomputable def a171 : AF := ⟨[.tmp 2],
 (.seq (.ops [q 0 2 (oMv (.val (.pointer none)))])
 (.seq (.drawn [q 0 3 (oMv (t 0)),
 q 1 4 (oNilCheck (t 3)),
 q 2 5 (oFieldAddr 0 (t 4)),
 r 3 6 (oLoad (t 5)),
 q 4 7 (oMv (t 0)),
 q 5 8 (oNilCheck (t 7)),
 q 6 9 (oFieldAddr 0 (t 8)),
 r 7 10 (oLoad (t 9)),
 r 8 11 (oLen .slice (t 10)),
 q 9 12 (oArith .sub (t 11) (i 1)),
 q 10 13 (oIdxS 2 (t 6) (t 12)),
 q 11 2 (oMv (t 13))])
 (.ret)))⟩
/-- (*tangram/dfs.stack[tangram/dfs.look]).pop -/
noncomputable def a172 : AF := ⟨[],
 (.drawn [q 0 2 (oMv (t 0)),
 q 1 3 (oMv (t 0)),
 q 2 4 (oNilCheck (t 3)),
 q 3 5 (oFieldAddr 0 (t 4)),
 r 4 6 (oLoad (t 5)),
 q 5 7 (oMv (t 0)),
 q 6 8 (oNilCheck (t 7)),
 q 7 9 (oFieldAddr 0 (t 8)),
 r 8 10 (oLoad (t 9)),
 r 9 11 (oLen .slice (t 10)),
 q 10 12 (oArith .sub (t 11) (i 1)),
 q 11 13 (oSlice 2 (t 6) none (some (t 12)) none),
 q 12 14 (oNilCheck (t 2)),
 q 13 15 (oFieldAddr 0 (t 14)),
 h0 14 (oStore 1 (t 15) (t 13))])⟩
/-- (*tangram/csr.Adj).After -/
noncomputable def a173 : AF := ⟨[.tmp 4],
 (.seq (.ops [q 0 4 (oMv (i 0))])
 (.seq (.seq (.ops [q 0 6 (oMv (t 0)),
 q 1 7 (oMv (t 1)),
 c 2 8 158 [(t 6), (t 7)],
 q 3 9 (oNot (t 8))])
 (.cond (t 9) (.seq (.ops [q 0 4 (oMv (i (-1)))])
 (.ret))
 (.skip)))
 (.seq (.ops [q 0 10 (oMv (t 0)),
 q 1 11 (oNilCheck (t 10)),
 q 2 12 (oFieldAddr 3 (t 11)),
 r 3 13 (oLoad (t 12)),
 q 4 14 (oMv (t 1)),
 q 5 15 (oIdxS 1 (t 13) (t 14)),
 r 6 16 (oLoad (t 15)),
 q 7 17 (oArith .add (t 16) (i 1)),
 q 8 5 (oMv (t 17))])
 (.seq (.seq (.drawn [q 0 18 (oMv (t 5)),
 q 1 19 (oMv (t 0)),
 q 2 20 (oNilCheck (t 19)),
 q 3 21 (oFieldAddr 1 (t 20)),
 r 4 22 (oLoad (t 21)),
 q 5 23 (oMv (t 0)),
 q 6 24 (oNilCheck (t 23)),
 q 7 25 (oFieldAddr 0 (t 24)),
 r 8 26 (oLoad (t 25)),
 q 9 27 (oMv (t 1)),
 q 10 28 (oIdxS 1 (t 26) (t 27)),
 r 11 29 (oLoad (t 28)),
 q 12 30 (oArith .add (t 29) (i 1)),
 q 13 31 (oIdxS 1 (t 22) (t 30)),
 r 14 32 (oLoad (t 31)),
 q 15 33 (oArith .geq (t 18) (t 32))])
 (.cond (t 33) (.seq (.ops [q 0 4 (oMv (i (-1)))])
 (.ret))
 (.skip)))
 (.seq (.ops [q 0 34 (oMv (t 0)),
 q 1 35 (oNilCheck (t 34)),
 q 2 36 (oFieldAddr 2 (t 35)),
 r 3 37 (oLoad (t 36)),
 q 4 38 (oMv (t 5)),
 q 5 39 (oIdxS 1 (t 37) (t 38)),
 r 6 40 (oLoad (t 39)),
 q 7 4 (oMv (t 40))])
 (.ret))))))⟩
/-- tangram/dfs.Valid -/
noncomputable def a174 : AF := ⟨[.tmp 4],
 (.seq (.ops [q 0 2 (oBox (t 0)),
 q 1 3 (oBox (t 1)),
 q 2 4 (oMv (b false))])
 (.seq (.seq (.ops [r 0 18 (oLoadN 2 (t 2)),
 c 1 19 92 [(t 18)],
 q 2 20 (oNot (t 19)),
 q 3 21 (oMv (t 20)),
 qg 4 22 21 false (oFieldAddr 0 (t 3)),
 rg 5 23 21 false (oLoad (t 22)),
 rg 6 24 21 false (oLen .slice (t 23)),
 qg 7 25 21 false (oFieldAddr 0 (t 2)),
 rg 8 26 21 false (oLoad (t 25)),
 qg 9 27 21 false (oArith .neq (t 24) (t 26)),
 q 10 28 (oPick (t 21) (b true) (t 27)),
 q 11 29 (oMv (t 28)),
 qg 12 30 29 false (oFieldAddr 1 (t 3)),
 rg 13 31 29 false (oLoad (t 30)),
 rg 14 32 29 false (oLen .slice (t 31)),
 qg 15 33 29 false (oFieldAddr 0 (t 2)),
 rg 16 34 29 false (oLoad (t 33)),
 qg 17 35 29 false (oArith .neq (t 32) (t 34)),
 q 18 36 (oPick (t 29) (b true) (t 35)),
 q 19 37 (oMv (t 36)),
 qg 20 38 37 false (oFieldAddr 2 (t 3)),
 rg 21 39 37 false (oLoad (t 38)),
 rg 22 40 37 false (oLen .slice (t 39)),
 qg 23 41 37 false (oFieldAddr 0 (t 2)),
 rg 24 42 37 false (oLoad (t 41)),
 qg 25 43 37 false (oArith .neq (t 40) (t 42)),
 q 26 44 (oPick (t 37) (b true) (t 43)),
 q 27 45 (oMv (t 44)),
 qg 28 46 45 false (oFieldAddr 3 (t 3)),
 rg 29 47 45 false (oLoad (t 46)),
 rg 30 48 45 false (oLen .slice (t 47)),
 qg 31 49 45 false (oFieldAddr 1 (t 2)),
 rg 32 50 45 false (oLoad (t 49)),
 rg 33 51 45 false (oLen .slice (t 50)),
 qg 34 52 45 false (oArith .neq (t 48) (t 51)),
 q 35 53 (oPick (t 45) (b true) (t 52))])
 (.cond (t 53) (.seq (.ops [q 0 4 (oMv (b false))])
 (.ret))
 (.skip)))
 (.seq (.ops [r 0 55 (oLoadN 2 (t 2)),
 r 1 56 (oLoadN 4 (t 3)),
 c 2 57 285 [(t 55), (t 56)],
 q 3 54 (oMv (t 57)),
 q 4 58 (oExtract 0 (t 54)),
 q 5 59 (oExtract 1 (t 54)),
 q 6 5 (oMv (t 58)),
 q 7 6 (oMv (t 59))])
 (.seq (.seq (.ops [q 0 60 (oMv (t 6)),
 q 1 61 (oNot (t 60))])
 (.cond (t 61) (.seq (.ops [q 0 4 (oMv (b false))])
 (.ret))
 (.skip)))
 (.seq (.seq (.ops [q 0 62 (oFieldAddr 0 (t 2)),
 r 1 63 (oLoad (t 62)),
 q 2 64 (oMv (i 0))])
 (.block 0 (.loop (.seq (.ops [q 0 65 (oArith .lss (t 64) (t 63))])
 (.seq (.cond (t 65) (.skip)
 (.exit 0))
 (.seq (.block 1 (.seq (.ops [q 0 66 (oMv (t 64)),
 q 1 7 (oMv (t 66))])
 (.seq (.ops [r 0 67 (oLoadN 2 (t 2)),
 r 1 68 (oLoadN 4 (t 3)),
 q 2 69 (oMv (t 7)),
 c 3 70 286 [(t 67), (t 68), (t 69)],
 q 4 71 (oNot (t 70))])
 (.cond (t 71) (.seq (.ops [q 0 4 (oMv (b false))])
 (.ret))
 (.skip)))))
 (.ops [q 0 72 (oArith .add (t 64) (i 1)),
 q 1 64 (oMv (t 72))])))))))
 (.seq (.ops [q 0 73 (oFieldAddr 0 (t 2)),
 r 1 74 (oLoad (t 73)),
 c 2 75 165 [(t 74), (i 1)],
 q 3 76 (oBuildSlice 1 0 [(.int .i64 0)] [] []),
 q 4 77 (oMv (t 5)),
 h 5 78 (oAppend 1 8 (t 76) (t 77)),
 q 6 8 (oMv (t 75)),
 q 7 9 (oMv (t 78))])
 (.seq (.seq (.ops [q 0 79 (oFieldAddr 0 (t 2)),
 r 1 80 (oLoad (t 79)),
 q 2 81 (oArith .sub (t 80) (i 1)),
 q 3 10 (oMv (t 81))])
 (.block 2 (.loop (.seq (.seq (.ops [q 0 82 (oMv (t 10)),
 q 1 83 (oArith .geq (t 82) (i 0))])
 (.cond (t 83) (.skip)
 (.exit 2)))
 (.seq (.block 3 (.seq (.ops [q 0 86 (oFieldAddr 2 (t 3)),
 r 1 87 (oLoad (t 86)),
 q 2 88 (oMv (t 10)),
 q 3 89 (oIdxS 1 (t 87) (t 88)),
 r 4 90 (oLoad (t 89)),
 q 5 11 (oMv (t 90))])
 (.seq (.seq (.drawn [q 0 91 (oMv (t 9)),
 q 1 92 (oMv (t 11)),
 q 2 93 (oIdxS 1 (t 91) (t 92)),
 r 3 94 (oLoad (t 93)),
 q 4 95 (oMv (t 5)),
 q 5 96 (oMv (t 11)),
 q 6 97 (oIdxS 1 (t 95) (t 96)),
 r 7 98 (oLoad (t 97)),
 q 8 99 (oMv (t 8)),
 q 9 100 (oMv (t 11)),
 q 10 101 (oIdxS 1 (t 99) (t 100)),
 r 11 102 (oLoad (t 101)),
 q 12 103 (oArith .add (t 98) (t 102)),
 q 13 104 (oArith .sub (t 103) (i 1)),
 q 14 105 (oArith .neq (t 94) (t 104))])
 (.cond (t 105) (.seq (.ops [q 0 4 (oMv (b false))])
 (.ret))
 (.skip)))
 (.seq (.seq (.ops [q 0 106 (oFieldAddr 0 (t 3)),
 r 1 107 (oLoad (t 106)),
 q 2 108 (oMv (t 11)),
 q 3 109 (oIdxS 1 (t 107) (t 108)),
 r 4 110 (oLoad (t 109)),
 q 5 111 (oArith .lss (t 110) (i 0))])
 (.cond (t 111) (.exit 3)
 (.skip)))
 (.seq (.drawn [r 0 113 (oLoadN 2 (t 2)),
 q 1 114 (oFieldAddr 0 (t 3)),
 r 2 115 (oLoad (t 114)),
 q 3 116 (oMv (t 11)),
 q 4 117 (oIdxS 1 (t 115) (t 116)),
 r 5 118 (oLoad (t 117)),
 c 6 119 287 [(t 113), (t 118)],
 q 7 112 (oMv (t 119)),
 q 8 120 (oExtract 0 (t 112)),
 q 9 121 (oExtract 1 (t 112)),
 q 10 12 (oMv (t 120)),
 q 11 13 (oMv (t 121))])
 (.seq (.seq (.ops [q 0 122 (oMv (t 5)),
 q 1 123 (oMv (t 12)),
 q 2 124 (oIdxS 1 (t 122) (t 123)),
 r 3 125 (oLoad (t 124)),
 q 4 126 (oMv (t 10)),
 q 5 127 (oArith .geq (t 125) (t 126))])
 (.cond (t 127) (.seq (.ops [q 0 4 (oMv (b false))])
 (.ret))
 (.skip)))
 (.seq (.drawn [q 0 128 (oMv (t 8)),
 q 1 129 (oMv (t 12)),
 q 2 130 (oIdxS 1 (t 128) (t 129)),
 r 3 131 (oLoad (t 130)),
 q 4 132 (oMv (t 8)),
 q 5 133 (oMv (t 11)),
 q 6 134 (oIdxS 1 (t 132) (t 133)),
 r 7 135 (oLoad (t 134)),
 q 8 136 (oArith .add (t 131) (t 135)),
 q 9 137 (oIdxS 1 (t 128) (t 129)),
 h0 10 (oStore 1 (t 137) (t 136))])
 (.drawn [q 0 138 (oMv (t 9)),
 q 1 139 (oMv (t 12)),
 q 2 140 (oMv (t 9)),
 q 3 141 (oMv (t 12)),
 q 4 142 (oIdxS 1 (t 140) (t 141)),
 r 5 143 (oLoad (t 142)),
 q 6 144 (oMv (t 9)),
 q 7 145 (oMv (t 11)),
 q 8 146 (oIdxS 1 (t 144) (t 145)),
 r 9 147 (oLoad (t 146)),
 q 10 148 (oMax (t 143) [(t 147)]),
 q 11 149 (oIdxS 1 (t 138) (t 139)),
 h0 12 (oStore 1 (t 149) (t 148))]))))))))
 (.ops [q 0 84 (oMv (t 10)),
 q 1 85 (oArith .sub (t 84) (i 1)),
 q 2 10 (oMv (t 85))]))))))
 (.seq (.seq (.ops [q 0 150 (oFieldAddr 3 (t 3)),
 r 1 151 (oLoad (t 150)),
 r 2 152 (oLen .slice (t 151)),
 q 3 153 (oMv (i 0))])
 (.block 4 (.loop (.seq (.ops [q 0 154 (oArith .lss (t 153) (t 152))])
 (.seq (.cond (t 154) (.skip)
 (.exit 4))
 (.seq (.block 5 (.seq (.ops [q 0 155 (oMv (t 153)),
 q 1 156 (oIdxS 1 (t 151) (t 153)),
 r 2 157 (oLoad (t 156)),
 q 3 14 (oMv (t 155)),
 q 4 15 (oMv (t 157))])
 (.seq (.seq (.ops [q 0 158 (oMv (t 15)),
 q 1 159 (oMv (t 14)),
 q 2 160 (oArith .mul (i 2) (t 159)),
 q 3 161 (oArith .neq (t 158) (t 160)),
 q 4 162 (oMv (t 161)),
 qg 5 163 162 true (oMv (t 15)),
 qg 6 164 162 true (oMv (t 14)),
 qg 7 165 162 true (oArith .mul (i 2) (t 164)),
 qg 8 166 162 true (oArith .add (t 165) (i 1)),
 qg 9 167 162 true (oArith .neq (t 163) (t 166)),
 q 10 168 (oPick (t 162) (t 167) (b false))])
 (.cond (t 168) (.seq (.ops [q 0 4 (oMv (b false))])
 (.ret))
 (.skip)))
 (.seq (.ops [r 0 170 (oLoadN 2 (t 2)),
 q 1 171 (oMv (t 15)),
 c 2 172 287 [(t 170), (t 171)],
 q 3 169 (oMv (t 172)),
 q 4 173 (oExtract 0 (t 169)),
 q 5 174 (oExtract 1 (t 169)),
 q 6 16 (oMv (t 173)),
 q 7 17 (oMv (t 174))])
 (.seq (.drawn [q 0 175 (oFieldAddr 0 (t 3)),
 r 1 176 (oLoad (t 175)),
 q 2 177 (oMv (t 17)),
 q 3 178 (oIdxS 1 (t 176) (t 177)),
 r 4 179 (oLoad (t 178)),
 q 5 180 (oMv (t 15)),
 q 6 181 (oArith .neq (t 179) (t 180)),
 q 7 182 (oMv (t 181)),
 qg 8 183 182 true (oMv (t 5)),
 qg 9 184 182 true (oMv (t 17)),
 qg 10 185 182 true (oIdxS 1 (t 183) (t 184)),
 rg 11 186 182 true (oLoad (t 185)),
 qg 12 187 182 true (oMv (t 5)),
 qg 13 188 182 true (oMv (t 16)),
 qg 14 189 182 true (oIdxS 1 (t 187) (t 188)),
 rg 15 190 182 true (oLoad (t 189)),
 qg 16 191 182 true (oArith .geq (t 186) (t 190)),
 qg 17 192 182 true (oMv (t 191)),
 qg 18 193 192 false (oMv (t 5)),
 qg 19 194 192 false (oMv (t 16)),
 qg 20 195 192 false (oIdxS 1 (t 193) (t 194)),
 rg 21 196 192 false (oLoad (t 195)),
 qg 22 197 192 false (oMv (t 9)),
 qg 23 198 192 false (oMv (t 17)),
 qg 24 199 192 false (oIdxS 1 (t 197) (t 198)),
 rg 25 200 192 false (oLoad (t 199)),
 qg 26 201 192 false (oArith .gtr (t 196) (t 200)),
 qg 27 202 182 true (oPick (t 192) (b true) (t 201)),
 q 28 203 (oPick (t 182) (t 202) (b false))])
 (.cond (t 203) (.seq (.ops [q 0 4 (oMv (b false))])
 (.ret))
 (.skip)))))))
 (.ops [q 0 204 (oArith .add (t 153) (i 1)),
 q 1 153 (oMv (t 204))])))))))
 (.seq (.ops [q 0 4 (oMv (b true))])
 (.ret))))))))))⟩
/-- (*tangram/lr.test).ends -/
noncomputable def a176 : AF := ⟨[.tmp 4, .tmp 5],
 (.seq (.ops [q 0 4 (oMv (i 0)),
 q 1 5 (oMv (i 0))])
 (.seq (.ops [q 0 7 (oMv (t 0)),
 q 1 8 (oNilCheck (t 7)),
 q 2 9 (oFieldAddr 0 (t 8)),
 q 3 10 (oFieldAddr 1 (t 9)),
 r 4 11 (oLoad (t 10)),
 q 5 12 (oMv (t 1)),
 q 6 13 (oIdxS 2 (t 11) (t 12)),
 r 7 14 (oLoadN 2 (t 13)),
 q 8 6 (oAlloc [(.int .i64 0), (.int .i64 0)]),
 h0 9 (oStore 2 (t 6) (t 14))])
 (.seq (.seq (.ops [q 0 15 (oMv (t 0)),
 q 1 16 (oNilCheck (t 15)),
 q 2 17 (oFieldAddr 2 (t 16)),
 q 3 18 (oFieldAddr 3 (t 17)),
 r 4 19 (oLoad (t 18)),
 q 5 20 (oMv (t 1)),
 q 6 21 (oIdxS 1 (t 19) (t 20)),
 r 7 22 (oLoad (t 21)),
 q 8 23 (oArith .rem (t 22) (i 2)),
 q 9 24 (oArith .eql (t 23) (i 0))])
 (.cond (t 24) (.seq (.drawn [q 0 25 (oFieldAddr 0 (t 6)),
 r 1 26 (oLoad (t 25)),
 q 2 27 (oFieldAddr 1 (t 6)),
 r 3 28 (oLoad (t 27)),
 q 4 4 (oMv (t 26)),
 q 5 5 (oMv (t 28))])
 (.ret))
 (.skip)))
 (.seq (.drawn [q 0 29 (oFieldAddr 1 (t 6)),
 r 1 30 (oLoad (t 29)),
 q 2 31 (oFieldAddr 0 (t 6)),
 r 3 32 (oLoad (t 31)),
 q 4 4 (oMv (t 30)),
 q 5 5 (oMv (t 32))])
 (.ret)))))⟩
/-- (*tangram/lr.test).parent -/
noncomputable def a177 : AF := ⟨[.tmp 4],
 (.seq (.ops [q 0 4 (oMv (i 0))])
 (.seq (.seq (.ops [q 0 5 (oMv (t 0)),
 q 1 6 (oNilCheck (t 5)),
 q 2 7 (oFieldAddr 2 (t 6)),
 q 3 8 (oFieldAddr 0 (t 7)),
 r 4 9 (oLoad (t 8)),
 q 5 10 (oMv (t 1)),
 q 6 11 (oIdxS 1 (t 9) (t 10)),
 r 7 12 (oLoad (t 11)),
 q 8 13 (oArith .lss (t 12) (i 0))])
 (.cond (t 13) (.seq (.ops [q 0 4 (oMv (i (-1)))])
 (.ret))
 (.skip)))
 (.seq (.ops [q 0 14 (oMv (t 0)),
 q 1 15 (oNilCheck (t 14)),
 q 2 16 (oFieldAddr 2 (t 15)),
 q 3 17 (oFieldAddr 0 (t 16)),
 r 4 18 (oLoad (t 17)),
 q 5 19 (oMv (t 1)),
 q 6 20 (oIdxS 1 (t 18) (t 19)),
 r 7 21 (oLoad (t 20)),
 q 8 22 (oArith .quo (t 21) (i 2)),
 q 9 4 (oMv (t 22))])
 (.ret))))⟩
/-- tangram/low.fault -/
noncomputable def a192 : AF := ⟨[.tmp 4],
 (.seq (.ops [q 0 2 (oBox (t 0)),
 q 1 3 (oBox (t 1)),
 q 2 4 (oMv (i 0))])
 (.seq (.block 0 (.seq (.ops [r 0 6 (oLoadN 2 (t 2)),
 c 1 7 92 [(t 6)],
 q 2 8 (oNot (t 7)),
 q 3 5 (oMv (t 8))])
 (.cond (t 5) (.seq (.ops [q 0 4 (oMv (i 1))])
 (.ret))
 (.seq (.ops [r 0 10 (oLoadN 2 (t 2)),
 r 1 11 (oLoadN 4 (t 3)),
 c 2 12 174 [(t 10), (t 11)],
 q 3 13 (oNot (t 12)),
 q 4 9 (oMv (t 13))])
 (.cond (t 9) (.seq (.ops [q 0 4 (oMv (i 80))])
 (.ret))
 (.skip))))))
 (.seq (.ops [q 0 4 (oMv (i 0))])
 (.ret))))⟩
/-- tangram/low.ends -/
noncomputable def a193 : AF := ⟨[.tmp 6, .tmp 7],
 (.seq (.ops [q 0 3 (oBox (t 0)),
 q 1 4 (oBox (t 1)),
 q 2 6 (oMv (i 0)),
 q 3 7 (oMv (i 0))])
 (.seq (.drawn [q 0 10 (oFieldAddr 1 (t 3)),
 r 1 11 (oLoad (t 10)),
 q 2 12 (oMv (t 2)),
 q 3 13 (oIdxS 2 (t 11) (t 12)),
 q 4 14 (oFieldAddr 0 (t 13)),
 r 5 15 (oLoad (t 14)),
 q 6 16 (oFieldAddr 1 (t 3)),
 r 7 17 (oLoad (t 16)),
 q 8 18 (oMv (t 2)),
 q 9 19 (oIdxS 2 (t 17) (t 18)),
 q 10 20 (oFieldAddr 1 (t 19)),
 r 11 21 (oLoad (t 20)),
 q 12 8 (oMv (t 15)),
 q 13 9 (oMv (t 21))])
 (.seq (.seq (.ops [q 0 22 (oFieldAddr 3 (t 4)),
 r 1 23 (oLoad (t 22)),
 q 2 24 (oMv (t 2)),
 q 3 25 (oIdxS 1 (t 23) (t 24)),
 r 4 26 (oLoad (t 25)),
 q 5 27 (oArith .and (t 26) (i 1)),
 q 6 28 (oArith .eql (t 27) (i 1))])
 (.cond (t 28) (.seq (.ops [q 0 29 (oMv (t 9)),
 q 1 30 (oMv (t 8)),
 q 2 6 (oMv (t 29)),
 q 3 7 (oMv (t 30))])
 (.ret))
 (.skip)))
 (.seq (.ops [q 0 31 (oMv (t 8)),
 q 1 32 (oMv (t 9)),
 q 2 6 (oMv (t 31)),
 q 3 7 (oMv (t 32))])
 (.ret)))))⟩
/-- slices.Backward[[]int,int] -/
noncomputable def a194 : AF := ⟨[.tmp 2],
 (.seq (.ops [q 0 1 (oBox (t 0)),
 q 1 2 (oMv (.val .nilFunc))])
 (.seq (.ops [q 0 3 (oClos 294 [] [(t 1)]),
 q 1 2 (oMv (t 3))])
 (.ret)))⟩
/-- tangram/low.lowest -/
noncomputable def a195 : AF := ⟨[.tmp 0, .tmp 1],
 (.seq (.ops [q 0 0 (oMv (.val .nilFunc)),
 q 1 1 (oMv (.val .nilFunc))])
 (.seq (.ops [q 0 2 (oAlloc [(.int .i64 0)]),
 q 1 3 (oAlloc [(.int .i64 0)]),
 h0 2 (oStore 1 (t 2) (i 9223372036854775807)),
 h0 3 (oStore 1 (t 3) (i 9223372036854775807))])
 (.seq (.ops [q 0 4 (oClos 295 [] [(t 2), (t 3)]),
 q 1 0 (oMv (t 4))])
 (.seq (.ops [q 0 5 (oMv (t 0)),
 q 1 6 (oClos 296 [] [(t 2), (t 3)]),
 q 2 0 (oMv (t 5)),
 q 3 1 (oMv (t 6))])
 (.ret)))))⟩
/-- slices.Sorted[int] -/
noncomputable def a196 : AF := ⟨[.tmp 2],
 (.seq (.ops [q 0 2 (oMv (.val (.slice none 0 0)))])
 (.seq (.ops [q 0 4 (oMv (t 0)),
 c 1 5 297 [(t 4)],
 q 2 3 (oMv (t 5))])
 (.seq (.ops [q 0 6 (oMv (t 3)),
 c 1 7 298 [(t 6)]])
 (.seq (.ops [q 0 8 (oMv (t 3)),
 q 1 2 (oMv (t 8))])
 (.ret)))))⟩
/-- slices.Values[[]int,int] -/
noncomputable def a197 : AF := ⟨[.tmp 2],
 (.seq (.ops [q 0 1 (oBox (t 0)),
 q 1 2 (oMv (.val .nilFunc))])
 (.seq (.ops [q 0 3 (oClos 299 [] [(t 1)]),
 q 1 2 (oMv (t 3))])
 (.ret)))⟩
/-- tangram/bucket.Sort[int] -/
noncomputable def a198 : AF := ⟨[.tmp 6, .tmp 7],
 (.seq (.ops [q 0 6 (oMv (.val (.slice none 0 0))),
 q 1 7 (oMv (i 0))])
 (.seq (.seq (.ops [q 0 15 (oMv (t 2)),
 q 1 16 (oArith .lss (t 15) (i 0)),
 q 2 17 (oMv (t 16)),
 qg 3 18 17 false (oMv (t 2)),
 qg 4 19 17 false (oArith .gtr (t 18) (i 4194304)),
 q 5 20 (oPick (t 17) (b true) (t 19)),
 q 6 21 (oMv (t 20)),
 qg 7 22 21 false (oMv (t 1)),
 qg 8 23 21 false (oEq false .funcNil (t 22) (.val .nilFunc)),
 q 9 24 (oPick (t 21) (b true) (t 23))])
 (.cond (t 24) (.seq (.ops [q 0 6 (oMv (.val (.slice none 0 0))),
 q 1 7 (oMv (i 2))])
 (.ret))
 (.skip)))
 (.seq (.ops [q 0 25 (oMv (t 0)),
 r 1 26 (oLen .slice (t 25)),
 q 2 27 (oMkSlice 1 8 [(.int .i64 0)] (i 0) (t 26)),
 q 3 8 (oMv (t 27))])
 (.seq (.seq (.ops [q 0 28 (oMv (t 0)),
 r 1 29 (oLen .slice (t 28)),
 q 2 30 (oMv (i 0))])
 (.block 0 (.loop (.seq (.ops [q 0 31 (oArith .lss (t 30) (t 29))])
 (.seq (.cond (t 31) (.skip)
 (.exit 0))
 (.seq (.block 1 (.seq (.ops [q 0 32 (oIdxS 1 (t 28) (t 30)),
 r 1 33 (oLoad (t 32)),
 q 2 10 (oMv (t 33))])
 (.seq (.ops [q 0 34 (oMv (t 1)),
 q 1 35 (oMv (t 10)),
 ⟨2, some 36, none, .call (t 34) [(t 35)], []⟩,
 q 3 11 (oMv (t 36))])
 (.seq (.seq (.ops [q 0 37 (oMv (t 11)),
 q 1 38 (oArith .lss (t 37) (i 0)),
 q 2 39 (oMv (t 38)),
 qg 3 40 39 false (oMv (t 11)),
 qg 4 41 39 false (oMv (t 2)),
 qg 5 42 39 false (oArith .gtr (t 40) (t 41)),
 q 6 43 (oPick (t 39) (b true) (t 42))])
 (.cond (t 43) (.seq (.ops [q 0 6 (oMv (.val (.slice none 0 0))),
 q 1 7 (oMv (i 60))])
 (.ret))
 (.skip)))
 (.ops [q 0 44 (oMv (t 8)),
 q 1 45 (oMv (t 11)),
 q 2 46 (oBuildSlice 1 1 [(.int .i64 0)] [(0, 1)] [(t 45)]),
 h 3 47 (oAppend 1 8 (t 44) (t 46)),
 q 4 8 (oMv (t 47))])))))
 (.ops [q 0 48 (oArith .add (t 30) (i 1)),
 q 1 30 (oMv (t 48))])))))))
 (.seq (.ops [q 0 49 (oMv (t 0)),
 r 1 50 (oLen .slice (t 49)),
 q 2 51 (oMkSlice 1 8 [(.int .i64 0)] (t 50) (t 50)),
 q 3 12 (oMv (t 51))])
 (.seq (.seq (.ops [q 0 52 (oMv (t 8)),
 c 1 53 300 [(t 52)],
 r 2 54 (oLen .slice (t 53)),
 q 3 55 (oMv (i 0))])
 (.block 2 (.loop (.seq (.ops [q 0 56 (oArith .lss (t 55) (t 54))])
 (.seq (.cond (t 56) (.skip)
 (.exit 2))
 (.seq (.block 3 (.seq (.ops [q 0 57 (oMv (t 55)),
 q 1 58 (oIdxS 1 (t 53) (t 55)),
 r 2 59 (oLoad (t 58)),
 q 3 13 (oMv (t 57)),
 q 4 14 (oMv (t 59))])
 (.ops [q 0 60 (oMv (t 12)),
 q 1 61 (oMv (t 14)),
 q 2 62 (oMv (t 0)),
 q 3 63 (oMv (t 13)),
 q 4 64 (oIdxS 1 (t 62) (t 63)),
 r 5 65 (oLoad (t 64)),
 q 6 66 (oIdxS 1 (t 60) (t 61)),
 h0 7 (oStore 1 (t 66) (t 65))])))
 (.ops [q 0 67 (oArith .add (t 55) (i 1)),
 q 1 55 (oMv (t 67))])))))))
 (.seq (.ops [q 0 68 (oMv (t 12)),
 q 1 6 (oMv (t 68)),
 q 2 7 (oMv (i 0))])
 (.ret))))))))⟩
/-- tangram/low.Of$1 -/
noncomputable def a199 : AF := ⟨[.tmp 3],
 (.seq (.ops [q 0 3 (oMv (i 0))])
 (.seq (.ops [q 0 4 (oFieldAddr 2 (t 1)),
 r 1 5 (oLoad (t 4)),
 q 2 6 (oMv (t 0)),
 q 3 7 (oArith .quo (t 6) (i 2)),
 q 4 8 (oIdxS 1 (t 5) (t 7)),
 r 5 9 (oLoad (t 8)),
 q 6 3 (oMv (t 9))])
 (.ret)))⟩
/-- (*tangram/lr.test).join -/
noncomputable def a200 : AF := ⟨[.tmp 6],
 (.seq (.ops [q 0 6 (oMv (b false))])
 (.seq (.ops [q 0 9 (oMv (t 0)),
 q 1 10 (oNilCheck (t 9)),
 q 2 11 (oFieldAddr 6 (t 10)),
 q 3 12 (oFieldAddr 3 (t 11)),
 r 4 13 (oLoad (t 12)),
 q 5 14 (oMv (t 1)),
 q 6 15 (oIdxS 1 (t 13) (t 14)),
 r 7 16 (oLoad (t 15)),
 q 8 17 (oMv (t 2)),
 q 9 18 (oIdxS 1 (t 16) (t 17)),
 r 10 19 (oLoad (t 18)),
 q 11 20 (oArith .quo (t 19) (i 2)),
 q 12 7 (oMv (t 20))])
 (.seq (.seq (.drawn [q 0 21 (oMv (t 0)),
 q 1 22 (oNilCheck (t 21)),
 q 2 23 (oFieldAddr 6 (t 22)),
 q 3 24 (oFieldAddr 0 (t 23)),
 r 4 25 (oLoad (t 24)),
 q 5 26 (oMv (t 7)),
 q 6 27 (oIdxS 1 (t 25) (t 26)),
 r 7 28 (oLoad (t 27)),
 q 8 29 (oMv (t 0)),
 q 9 30 (oNilCheck (t 29)),
 q 10 31 (oFieldAddr 2 (t 30)),
 q 11 32 (oFieldAddr 1 (t 31)),
 r 12 33 (oLoad (t 32)),
 q 13 34 (oMv (t 1)),
 q 14 35 (oIdxS 1 (t 33) (t 34)),
 r 15 36 (oLoad (t 35)),
 q 16 37 (oArith .geq (t 28) (t 36))])
 (.cond (t 37) (.seq (.ops [q 0 6 (oMv (b true))])
 (.ret))
 (.skip)))
 (.seq (.ops [q 0 38 (oMv (t 0)),
 q 1 39 (oMv (t 1)),
 c 2 40 177 [(t 38), (t 39)],
 q 3 8 (oMv (t 40))])
 (.seq (.seq (.ops [q 0 41 (oMv (t 2)),
 q 1 42 (oArith .eql (t 41) (i 0))])
 (.cond (t 42) (.seq (.drawn [q 0 43 (oMv (t 0)),
 q 1 44 (oNilCheck (t 43)),
 q 2 45 (oFieldAddr 14 (t 44)),
 r 3 46 (oLoad (t 45)),
 q 4 47 (oMv (t 8)),
 q 5 48 (oMv (t 0)),
 q 6 49 (oNilCheck (t 48)),
 q 7 50 (oFieldAddr 14 (t 49)),
 r 8 51 (oLoad (t 50)),
 q 9 52 (oMv (t 7)),
 q 10 53 (oIdxS 1 (t 51) (t 52)),
 r 11 54 (oLoad (t 53)),
 q 12 55 (oIdxS 1 (t 46) (t 47)),
 h0 13 (oStore 1 (t 55) (t 54))])
 (.seq (.ops [q 0 6 (oMv (b true))])
 (.ret)))
 (.skip)))
 (.seq (.ops [q 0 56 (oMv (t 0)),
 q 1 57 (oMv (t 7)),
 q 2 58 (oMv (t 8)),
 c 3 59 301 [(t 56), (t 57), (t 58)],
 q 4 6 (oMv (t 59))])
 (.ret)))))))⟩
/-- (*tangram/lr.test).leave -/
noncomputable def a201 : AF := ⟨[],
 (.seq (.block 0 (.loop (.seq (.seq (.drawn [q 0 9 (oMv (t 0)),
 q 1 10 (oNilCheck (t 9)),
 q 2 11 (oFieldAddr 10 (t 10)),
 r 3 12 (oLoad (t 11)),
 r 4 13 (oLen .slice (t 12)),
 q 5 14 (oArith .gtr (t 13) (i 0)),
 q 6 15 (oMv (t 14)),
 qg 7 16 15 true (oMv (t 0)),
 qg 8 17 15 true (oMv (t 0)),
 qg 9 18 15 true (oNilCheck (t 17)),
 qg 10 19 15 true (oFieldAddr 10 (t 18)),
 rg 11 20 15 true (oLoad (t 19)),
 qg 12 21 15 true (oMv (t 0)),
 qg 13 22 15 true (oNilCheck (t 21)),
 qg 14 23 15 true (oFieldAddr 10 (t 22)),
 rg 15 24 15 true (oLoad (t 23)),
 rg 16 25 15 true (oLen .slice (t 24)),
 qg 17 26 15 true (oArith .sub (t 25) (i 1)),
 qg 18 27 15 true (oIdxS 4 (t 20) (t 26)),
 rg 19 28 15 true (oLoadN 4 (t 27)),
 qg 21 30 15 true (oMv (t 0)),
 qg 22 31 15 true (oNilCheck (t 30)),
 qg 23 32 15 true (oFieldAddr 2 (t 31)),
 qg 24 33 15 true (oFieldAddr 1 (t 32)),
 rg 25 34 15 true (oLoad (t 33)),
 qg 26 35 15 true (oMv (t 2)),
 qg 27 36 15 true (oIdxS 1 (t 34) (t 35)),
 rg 28 37 15 true (oLoad (t 36)),
 ⟨20, some 29, some (15, true), .callF 302 [(t 16), (t 28)], [25, 28]⟩,
 qg 29 38 15 true (oArith .eql (t 29) (t 37)),
 q 30 39 (oPick (t 15) (t 38) (b false))])
 (.cond (t 39) (.skip)
 (.exit 0)))
 (.block 1 (.seq (.ops [q 0 40 (oMv (t 0)),
 c 1 41 303 [(t 40)],
 q 2 6 (oAlloc [(.int .i64 0), (.int .i64 0), (.int .i64 0), (.int .i64 0)]),
 h0 3 (oStore 4 (t 6) (t 41))])
 (.seq (.ops [q 0 42 (oFieldAddr 0 (t 6)),
 r 1 43 (oLoadN 2 (t 42)),
 r 2 44 (oLoadN 2 (.val (.pointer (some ⟨0, 0, none⟩)))),
 q 3 45 (oEq true (.ints 2) (t 43) (t 44))])
 (.cond (t 45) (.drawn [q 0 46 (oMv (t 0)),
 q 1 47 (oNilCheck (t 46)),
 q 2 48 (oFieldAddr 12 (t 47)),
 r 3 49 (oLoad (t 48)),
 q 4 50 (oFieldAddr 0 (t 6)),
 q 5 51 (oFieldAddr 0 (t 50)),
 r 6 52 (oLoad (t 51)),
 q 7 53 (oIdxS 1 (t 49) (t 52)),
 h0 8 (oStore 1 (t 53) (i (-1)))])
 (.skip))))))))
 (.seq (.seq (.ops [q 0 54 (oMv (t 0)),
 q 1 55 (oNilCheck (t 54)),
 q 2 56 (oFieldAddr 10 (t 55)),
 r 3 57 (oLoad (t 56)),
 r 4 58 (oLen .slice (t 57)),
 q 5 59 (oArith .gtr (t 58) (i 0))])
 (.cond (t 59) (.seq (.ops [q 0 60 (oMv (t 0)),
 c 1 61 303 [(t 60)],
 q 2 7 (oAlloc [(.int .i64 0), (.int .i64 0), (.int .i64 0), (.int .i64 0)]),
 h0 3 (oStore 4 (t 7) (t 61))])
 (.seq (.ops [q 0 62 (oMv (t 0)),
 q 1 63 (oFieldAddr 0 (t 7)),
 r 2 64 (oLoadN 2 (t 63)),
 q 3 65 (oFieldAddr 2 (t 7)),
 r 4 66 (oLoadN 2 (t 65)),
 q 5 67 (oMv (t 2)),
 c 6 68 304 [(t 62), (t 64), (t 66), (t 67)],
 q 7 69 (oFieldAddr 0 (t 7)),
 h0 8 (oStore 2 (t 69) (t 68))])
 (.seq (.ops [q 0 70 (oMv (t 0)),
 q 1 71 (oFieldAddr 2 (t 7)),
 r 2 72 (oLoadN 2 (t 71)),
 q 3 73 (oFieldAddr 0 (t 7)),
 r 4 74 (oLoadN 2 (t 73)),
 q 5 75 (oMv (t 2)),
 c 6 76 304 [(t 70), (t 72), (t 74), (t 75)],
 q 7 77 (oFieldAddr 2 (t 7)),
 h0 8 (oStore 2 (t 77) (t 76))])
 (.drawn [q 0 78 (oMv (t 0)),
 q 1 79 (oMv (t 0)),
 q 2 80 (oNilCheck (t 79)),
 q 3 81 (oFieldAddr 10 (t 80)),
 r 4 82 (oLoad (t 81)),
 r 5 83 (oLoadN 4 (t 7)),
 q 6 84 (oBuildSlice 4 1 [(.int .i64 0), (.int .i64 0), (.int .i64 0), (.int .i64 0)] [(0, 4)] [(t 83)]),
 h 7 85 (oAppend 4 32 (t 82) (t 84)),
 q 8 86 (oNilCheck (t 78)),
 q 9 87 (oFieldAddr 10 (t 86)),
 h0 10 (oStore 1 (t 87) (t 85))]))))
 (.skip)))
 (.seq (.seq (.drawn [q 0 88 (oMv (t 0)),
 q 1 89 (oNilCheck (t 88)),
 q 2 90 (oFieldAddr 6 (t 89)),
 q 3 91 (oFieldAddr 0 (t 90)),
 r 4 92 (oLoad (t 91)),
 q 5 93 (oMv (t 1)),
 q 6 94 (oIdxS 1 (t 92) (t 93)),
 r 7 95 (oLoad (t 94)),
 q 8 96 (oMv (t 0)),
 q 9 97 (oNilCheck (t 96)),
 q 10 98 (oFieldAddr 2 (t 97)),
 q 11 99 (oFieldAddr 1 (t 98)),
 r 12 100 (oLoad (t 99)),
 q 13 101 (oMv (t 2)),
 q 14 102 (oIdxS 1 (t 100) (t 101)),
 r 15 103 (oLoad (t 102)),
 q 16 104 (oArith .geq (t 95) (t 103))])
 (.cond (t 104) (.ret)
 (.skip)))
 (.seq (.drawn [q 0 105 (oMv (t 0)),
 q 1 106 (oNilCheck (t 105)),
 q 2 107 (oFieldAddr 10 (t 106)),
 r 3 108 (oLoad (t 107)),
 q 4 109 (oMv (t 0)),
 q 5 110 (oNilCheck (t 109)),
 q 6 111 (oFieldAddr 10 (t 110)),
 r 7 112 (oLoad (t 111)),
 r 8 113 (oLen .slice (t 112)),
 q 9 114 (oArith .sub (t 113) (i 1)),
 q 10 115 (oIdxS 4 (t 108) (t 114)),
 r 11 116 (oLoadN 4 (t 115)),
 q 12 8 (oAlloc [(.int .i64 0), (.int .i64 0), (.int .i64 0), (.int .i64 0)]),
 h0 13 (oStore 4 (t 8) (t 116))])
 (.seq (.drawn [q 0 117 (oFieldAddr 0 (t 8)),
 r 1 118 (oLoadN 2 (t 117)),
 r 2 119 (oLoadN 2 (.val (.pointer (some ⟨0, 0, none⟩)))),
 q 3 120 (oEq true (.ints 2) (t 118) (t 119)),
 q 4 121 (oMv (t 120)),
 qg 5 122 121 true (oFieldAddr 2 (t 8)),
 rg 6 123 121 true (oLoadN 2 (t 122)),
 rg 7 124 121 true (oLoadN 2 (.val (.pointer (some ⟨0, 0, none⟩)))),
 qg 8 125 121 true (oEq false (.ints 2) (t 123) (t 124)),
 qg 9 126 121 true (oMv (t 125)),
 qg 10 127 126 false (oMv (t 0)),
 qg 11 128 126 false (oNilCheck (t 127)),
 qg 12 129 126 false (oFieldAddr 6 (t 128)),
 qg 13 130 126 false (oFieldAddr 0 (t 129)),
 rg 14 131 126 false (oLoad (t 130)),
 qg 15 132 126 false (oFieldAddr 0 (t 8)),
 qg 16 133 126 false (oFieldAddr 1 (t 132)),
 rg 17 134 126 false (oLoad (t 133)),
 qg 18 135 126 false (oIdxS 1 (t 131) (t 134)),
 rg 19 136 126 false (oLoad (t 135)),
 qg 20 137 126 false (oMv (t 0)),
 qg 21 138 126 false (oNilCheck (t 137)),
 qg 22 139 126 false (oFieldAddr 6 (t 138)),
 qg 23 140 126 false (oFieldAddr 0 (t 139)),
 rg 24 141 126 false (oLoad (t 140)),
 qg 25 142 126 false (oFieldAddr 2 (t 8)),
 qg 26 143 126 false (oFieldAddr 1 (t 142)),
 rg 27 144 126 false (oLoad (t 143)),
 qg 28 145 126 false (oIdxS 1 (t 141) (t 144)),
 rg 29 146 126 false (oLoad (t 145)),
 qg 30 147 126 false (oArith .gtr (t 136) (t 146)),
 qg 31 148 121 true (oPick (t 126) (b true) (t 147)),
 q 32 149 (oPick (t 121) (t 148) (b false))])
 (.cond (t 149) (.drawn [q 0 150 (oMv (t 0)),
 q 1 151 (oNilCheck (t 150)),
 q 2 152 (oFieldAddr 11 (t 151)),
 r 3 153 (oLoad (t 152)),
 q 4 154 (oMv (t 1)),
 q 5 155 (oFieldAddr 0 (t 8)),
 q 6 156 (oFieldAddr 1 (t 155)),
 r 7 157 (oLoad (t 156)),
 q 8 158 (oIdxS 1 (t 153) (t 154)),
 h0 9 (oStore 1 (t 158) (t 157))])
 (.drawn [q 0 159 (oMv (t 0)),
 q 1 160 (oNilCheck (t 159)),
 q 2 161 (oFieldAddr 11 (t 160)),
 r 3 162 (oLoad (t 161)),
 q 4 163 (oMv (t 1)),
 q 5 164 (oFieldAddr 2 (t 8)),
 q 6 165 (oFieldAddr 1 (t 164)),
 r 7 166 (oLoad (t 165)),
 q 8 167 (oIdxS 1 (t 162) (t 163)),
 h0 9 (oStore 1 (t 167) (t 166))])))))))⟩
/-- (*tangram/csr.Adj).vertex -/
noncomputable def a284 : AF := ⟨[.tmp 4],
 (.seq (.ops [q 0 4 (oMv (b false))])
 (.seq (.ops [q 0 5 (oMv (t 1)),
 q 1 6 (oArith .geq (t 5) (i 0)),
 q 2 7 (oMv (t 6)),
 qg 3 8 7 true (oMv (t 1)),
 qg 4 9 7 true (oMv (t 0)),
 ⟨5, some 10, some (7, true), .callF 329 [(t 9)], []⟩,
 qg 6 11 7 true (oArith .lss (t 8) (t 10)),
 q 7 12 (oPick (t 7) (t 11) (b false)),
 q 8 4 (oMv (t 12))])
 (.ret)))⟩
/-- tangram/dfs.places -/
noncomputable def a285 : AF := ⟨[.tmp 4, .tmp 5],
 (.seq (.ops [q 0 2 (oBox (t 0)),
 q 1 3 (oBox (t 1)),
 q 2 4 (oMv (.val (.slice none 0 0))),
 q 3 5 (oMv (b false))])
 (.seq (.ops [q 0 9 (oFieldAddr 0 (t 2)),
 r 1 10 (oLoad (t 9)),
 c 2 11 165 [(t 10), (i (-1))],
 q 3 6 (oMv (t 11))])
 (.seq (.seq (.ops [q 0 12 (oFieldAddr 2 (t 3)),
 r 1 13 (oLoad (t 12)),
 r 2 14 (oLen .slice (t 13)),
 q 3 15 (oMv (i 0))])
 (.block 0 (.loop (.seq (.ops [q 0 16 (oArith .lss (t 15) (t 14))])
 (.seq (.cond (t 16) (.skip)
 (.exit 0))
 (.seq (.block 1 (.seq (.ops [q 0 17 (oMv (t 15)),
 q 1 18 (oIdxS 1 (t 13) (t 15)),
 r 2 19 (oLoad (t 18)),
 q 3 7 (oMv (t 17)),
 q 4 8 (oMv (t 19))])
 (.seq (.seq (.ops [q 0 20 (oMv (t 8)),
 q 1 21 (oArith .lss (t 20) (i 0)),
 q 2 22 (oMv (t 21)),
 qg 3 23 22 false (oMv (t 8)),
 qg 4 24 22 false (oFieldAddr 0 (t 2)),
 rg 5 25 22 false (oLoad (t 24)),
 qg 6 26 22 false (oArith .geq (t 23) (t 25)),
 q 7 27 (oPick (t 22) (b true) (t 26)),
 q 8 28 (oMv (t 27)),
 qg 9 29 28 false (oMv (t 6)),
 qg 10 30 28 false (oMv (t 8)),
 qg 11 31 28 false (oIdxS 1 (t 29) (t 30)),
 rg 12 32 28 false (oLoad (t 31)),
 qg 13 33 28 false (oArith .geq (t 32) (i 0)),
 q 14 34 (oPick (t 28) (b true) (t 33))])
 (.cond (t 34) (.seq (.ops [q 0 4 (oMv (.val (.slice none 0 0))),
 q 1 5 (oMv (b false))])
 (.ret))
 (.skip)))
 (.ops [q 0 35 (oMv (t 6)),
 q 1 36 (oMv (t 8)),
 q 2 37 (oMv (t 7)),
 q 3 38 (oIdxS 1 (t 35) (t 36)),
 h0 4 (oStore 1 (t 38) (t 37))]))))
 (.ops [q 0 39 (oArith .add (t 15) (i 1)),
 q 1 15 (oMv (t 39))])))))))
 (.seq (.ops [q 0 40 (oMv (t 6)),
 q 1 4 (oMv (t 40)),
 q 2 5 (oMv (b true))])
 (.ret)))))⟩
/-- tangram/dfs.hangs -/
noncomputable def a286 : AF := ⟨[.tmp 6],
 (.seq (.ops [q 0 3 (oBox (t 0)),
 q 1 4 (oBox (t 1)),
 q 2 6 (oMv (b false))])
 (.seq (.ops [q 0 10 (oFieldAddr 0 (t 4)),
 r 1 11 (oLoad (t 10)),
 q 2 12 (oMv (t 2)),
 q 3 13 (oIdxS 1 (t 11) (t 12)),
 r 4 14 (oLoad (t 13)),
 q 5 7 (oMv (t 14))])
 (.seq (.seq (.ops [q 0 15 (oMv (t 7)),
 q 1 16 (oArith .eql (t 15) (i (-1)))])
 (.cond (t 16) (.seq (.ops [q 0 17 (oFieldAddr 1 (t 4)),
 r 1 18 (oLoad (t 17)),
 q 2 19 (oMv (t 2)),
 q 3 20 (oIdxS 1 (t 18) (t 19)),
 r 4 21 (oLoad (t 20)),
 q 5 22 (oArith .eql (t 21) (i 0)),
 q 6 6 (oMv (t 22))])
 (.ret))
 (.skip)))
 (.seq (.seq (.ops [q 0 23 (oMv (t 7)),
 q 1 24 (oArith .lss (t 23) (i 0)),
 q 2 25 (oMv (t 24)),
 qg 3 26 25 false (oMv (t 7)),
 qg 4 27 25 false (oFieldAddr 1 (t 3)),
 rg 5 28 25 false (oLoad (t 27)),
 rg 6 29 25 false (oLen .slice (t 28)),
 qg 7 30 25 false (oArith .mul (i 2) (t 29)),
 qg 8 31 25 false (oArith .geq (t 26) (t 30)),
 q 9 32 (oPick (t 25) (b true) (t 31)),
 q 10 33 (oMv (t 32)),
 qg 11 34 33 false (oFieldAddr 3 (t 4)),
 rg 12 35 33 false (oLoad (t 34)),
 qg 13 36 33 false (oMv (t 7)),
 qg 14 37 33 false (oArith .quo (t 36) (i 2)),
 qg 15 38 33 false (oIdxS 1 (t 35) (t 37)),
 rg 16 39 33 false (oLoad (t 38)),
 qg 17 40 33 false (oMv (t 7)),
 qg 18 41 33 false (oArith .neq (t 39) (t 40)),
 q 19 42 (oPick (t 33) (b true) (t 41))])
 (.cond (t 42) (.seq (.ops [q 0 6 (oMv (b false))])
 (.ret))
 (.skip)))
 (.seq (.ops [r 0 44 (oLoadN 2 (t 3)),
 q 1 45 (oMv (t 7)),
 c 2 46 287 [(t 44), (t 45)],
 q 3 43 (oMv (t 46)),
 q 4 47 (oExtract 0 (t 43)),
 q 5 48 (oExtract 1 (t 43)),
 q 6 8 (oMv (t 47)),
 q 7 9 (oMv (t 48))])
 (.seq (.drawn [q 0 49 (oMv (t 9)),
 q 1 50 (oMv (t 2)),
 q 2 51 (oArith .eql (t 49) (t 50)),
 q 3 52 (oMv (t 51)),
 qg 4 53 52 true (oFieldAddr 1 (t 4)),
 rg 5 54 52 true (oLoad (t 53)),
 qg 6 55 52 true (oMv (t 2)),
 qg 7 56 52 true (oIdxS 1 (t 54) (t 55)),
 rg 8 57 52 true (oLoad (t 56)),
 qg 9 58 52 true (oFieldAddr 1 (t 4)),
 rg 10 59 52 true (oLoad (t 58)),
 qg 11 60 52 true (oMv (t 8)),
 qg 12 61 52 true (oIdxS 1 (t 59) (t 60)),
 rg 13 62 52 true (oLoad (t 61)),
 qg 14 63 52 true (oArith .add (t 62) (i 1)),
 qg 15 64 52 true (oArith .eql (t 57) (t 63)),
 q 16 65 (oPick (t 52) (t 64) (b false)),
 q 17 6 (oMv (t 65))])
 (.ret)))))))⟩
/-- tangram/dfs.ends -/
noncomputable def a287 : AF := ⟨[.tmp 4, .tmp 5],
 (.seq (.ops [q 0 2 (oBox (t 0)),
 q 1 4 (oMv (i 0)),
 q 2 5 (oMv (i 0))])
 (.seq (.ops [q 0 7 (oFieldAddr 1 (t 2)),
 r 1 8 (oLoad (t 7)),
 q 2 9 (oMv (t 1)),
 q 3 10 (oArith .quo (t 9) (i 2)),
 q 4 11 (oIdxS 2 (t 8) (t 10)),
 r 5 12 (oLoadN 2 (t 11)),
 q 6 6 (oAlloc [(.int .i64 0), (.int .i64 0)]),
 h0 7 (oStore 2 (t 6) (t 12))])
 (.seq (.seq (.ops [q 0 13 (oMv (t 1)),
 q 1 14 (oArith .rem (t 13) (i 2)),
 q 2 15 (oArith .eql (t 14) (i 0))])
 (.cond (t 15) (.seq (.drawn [q 0 16 (oFieldAddr 0 (t 6)),
 r 1 17 (oLoad (t 16)),
 q 2 18 (oFieldAddr 1 (t 6)),
 r 3 19 (oLoad (t 18)),
 q 4 4 (oMv (t 17)),
 q 5 5 (oMv (t 19))])
 (.ret))
 (.skip)))
 (.seq (.drawn [q 0 20 (oFieldAddr 1 (t 6)),
 r 1 21 (oLoad (t 20)),
 q 2 22 (oFieldAddr 0 (t 6)),
 r 3 23 (oLoad (t 22)),
 q 4 4 (oMv (t 21)),
 q 5 5 (oMv (t 23))])
 (.ret)))))⟩
/-- slices.Backward[[]int,int]$1 -/
noncomputable def a294 : AF := ⟨[],
 (.seq (.ops [r 0 4 (oLoad (t 1)),
 r 1 5 (oLen .slice (t 4)),
 q 2 6 (oArith .sub (t 5) (i 1)),
 q 3 3 (oMv (t 6))])
 (.block 0 (.loop (.seq (.seq (.ops [q 0 7 (oMv (t 3)),
 q 1 8 (oArith .geq (t 7) (i 0))])
 (.cond (t 8) (.skip)
 (.exit 0)))
 (.seq (.block 1 (.seq (.ops [q 0 11 (oMv (t 0)),
 q 1 12 (oMv (t 3)),
 r 2 13 (oLoad (t 1)),
 q 3 14 (oMv (t 3)),
 q 4 15 (oIdxS 1 (t 13) (t 14)),
 r 5 16 (oLoad (t 15)),
 ⟨6, some 17, none, .call (t 11) [(t 12), (t 16)], []⟩,
 q 7 18 (oNot (t 17))])
 (.cond (t 18) (.ret)
 (.skip))))
 (.ops [q 0 9 (oMv (t 3)),
 q 1 10 (oArith .sub (t 9) (i 1)),
 q 2 3 (oMv (t 10))]))))))⟩
/-- tangram/low.lowest$1 -/
noncomputable def a295 : AF := ⟨[],
 (.block 0 (.seq (.ops [q 0 5 (oMv (t 0)),
 r 1 6 (oLoad (t 1)),
 q 2 7 (oArith .lss (t 5) (t 6)),
 q 3 4 (oMv (t 7))])
 (.cond (t 4) (.ops [q 0 8 (oMv (t 0)),
 r 1 9 (oLoad (t 1)),
 h0 2 (oStore 1 (t 1) (t 8)),
 h0 3 (oStore 1 (t 2) (t 9))])
 (.seq (.ops [q 0 11 (oMv (t 0)),
 r 1 12 (oLoad (t 1)),
 q 2 13 (oArith .gtr (t 11) (t 12)),
 q 3 14 (oMv (t 13)),
 qg 4 15 14 true (oMv (t 0)),
 rg 5 16 14 true (oLoad (t 2)),
 qg 6 17 14 true (oArith .lss (t 15) (t 16)),
 q 7 18 (oPick (t 14) (t 17) (b false)),
 q 8 10 (oMv (t 18))])
 (.cond (t 10) (.ops [q 0 19 (oMv (t 0)),
 h0 1 (oStore 1 (t 2) (t 19))])
 (.skip))))))⟩
/-- tangram/low.lowest$2 -/
noncomputable def a296 : AF := ⟨[.tmp 2, .tmp 3],
 (.seq (.ops [q 0 2 (oMv (i 0)),
 q 1 3 (oMv (i 0))])
 (.seq (.drawn [r 0 4 (oLoad (t 0)),
 r 1 5 (oLoad (t 1)),
 q 2 2 (oMv (t 4)),
 q 3 3 (oMv (t 5))])
 (.ret)))⟩
/-- slices.Collect[int] -/
noncomputable def a297 : AF := ⟨[.tmp 2],
 (.seq (.ops [q 0 2 (oMv (.val (.slice none 0 0)))])
 (.seq (.ops [q 0 3 (oMv (t 0)),
 c 1 4 331 [(.val (.slice none 0 0)), (t 3)],
 q 2 2 (oMv (t 4))])
 (.ret)))⟩
/-- slices.Sort[[]int,int] -/
noncomputable def a298 : AF := ⟨[],
 (.seq (.ops [q 0 3 (oMv (t 0)),
 r 1 4 (oLen .slice (t 3)),
 q 2 2 (oMv (t 4))])
 (.ops [q 0 5 (oMv (t 0)),
 q 1 6 (oMv (t 2)),
 q 2 7 (oMv (t 2)),
 q 3 8 (oConv .u64 (t 7)),
 c 4 9 307 [(t 8)],
 c 5 10 332 [(t 5), (i 0), (t 6), (t 9)]]))⟩
/-- slices.Values[[]int,int]$1 -/
noncomputable def a299 : AF := ⟨[],
 (.seq (.ops [r 0 5 (oLoad (t 1)),
 r 1 6 (oLen .slice (t 5)),
 q 2 7 (oMv (i 0))])
 (.block 0 (.loop (.seq (.ops [q 0 8 (oArith .lss (t 7) (t 6))])
 (.seq (.cond (t 8) (.skip)
 (.exit 0))
 (.seq (.block 1 (.seq (.ops [q 0 9 (oIdxS 1 (t 5) (t 7)),
 r 1 10 (oLoad (t 9)),
 q 2 4 (oMv (t 10))])
 (.seq (.ops [q 0 11 (oMv (t 0)),
 q 1 12 (oMv (t 4)),
 ⟨2, some 13, none, .call (t 11) [(t 12)], []⟩,
 q 3 14 (oNot (t 13))])
 (.cond (t 14) (.ret)
 (.skip)))))
 (.ops [q 0 15 (oArith .add (t 7) (i 1)),
 q 1 7 (oMv (t 15))])))))))⟩
/-- tangram/bucket.ranks -/
noncomputable def a300 : AF := ⟨[.tmp 2],
 (.seq (.ops [q 0 2 (oMv (.val (.slice none 0 0)))])
 (.seq (.ops [q 0 3 (oMv (i 0))])
 (.seq (.seq (.ops [q 0 13 (oMv (t 0)),
 r 1 14 (oLen .slice (t 13)),
 q 2 15 (oMv (i 0))])
 (.block 0 (.loop (.seq (.ops [q 0 16 (oArith .lss (t 15) (t 14))])
 (.seq (.cond (t 16) (.skip)
 (.exit 0))
 (.seq (.block 1 (.seq (.ops [q 0 17 (oIdxS 1 (t 13) (t 15)),
 r 1 18 (oLoad (t 17)),
 q 2 5 (oMv (t 18))])
 (.ops [q 0 19 (oMv (t 3)),
 q 1 20 (oMv (t 5)),
 q 2 21 (oMax (t 19) [(t 20)]),
 q 3 3 (oMv (t 21))])))
 (.ops [q 0 22 (oArith .add (t 15) (i 1)),
 q 1 15 (oMv (t 22))])))))))
 (.seq (.seq (.ops [q 0 23 (oMv (t 0)),
 r 1 24 (oLen .slice (t 23)),
 q 2 25 (oArith .eql (t 24) (i 0))])
 (.cond (t 25) (.seq (.ops [q 0 2 (oMv (.val (.slice none 0 0)))])
 (.ret))
 (.skip)))
 (.seq (.ops [q 0 26 (oMv (t 3)),
 q 1 27 (oArith .add (t 26) (i 2)),
 q 2 28 (oMkSlice 1 8 [(.int .i64 0)] (t 27) (t 27)),
 q 3 6 (oMv (t 28))])
 (.seq (.seq (.ops [q 0 29 (oMv (t 0)),
 r 1 30 (oLen .slice (t 29)),
 q 2 31 (oMv (i 0))])
 (.block 2 (.loop (.seq (.ops [q 0 32 (oArith .lss (t 31) (t 30))])
 (.seq (.cond (t 32) (.skip)
 (.exit 2))
 (.seq (.block 3 (.seq (.ops [q 0 33 (oIdxS 1 (t 29) (t 31)),
 r 1 34 (oLoad (t 33)),
 q 2 8 (oMv (t 34))])
 (.ops [q 0 35 (oMv (t 6)),
 q 1 36 (oMv (t 8)),
 q 2 37 (oArith .add (t 36) (i 1)),
 q 3 38 (oIdxS 1 (t 35) (t 37)),
 r 4 39 (oLoad (t 38)),
 q 5 40 (oArith .add (t 39) (i 1)),
 q 6 41 (oIdxS 1 (t 35) (t 37)),
 h0 7 (oStore 1 (t 41) (t 40))])))
 (.ops [q 0 42 (oArith .add (t 31) (i 1)),
 q 1 31 (oMv (t 42))])))))))
 (.seq (.seq (.ops [q 0 43 (oMv (t 3)),
 q 1 44 (oMv (i 0))])
 (.block 4 (.loop (.seq (.ops [q 0 45 (oArith .lss (t 44) (t 43))])
 (.seq (.cond (t 45) (.skip)
 (.exit 4))
 (.seq (.block 5 (.seq (.ops [q 0 46 (oMv (t 44)),
 q 1 9 (oMv (t 46))])
 (.drawn [q 0 47 (oMv (t 6)),
 q 1 48 (oMv (t 9)),
 q 2 49 (oArith .add (t 48) (i 1)),
 q 3 50 (oIdxS 1 (t 47) (t 49)),
 r 4 51 (oLoad (t 50)),
 q 5 52 (oMv (t 6)),
 q 6 53 (oMv (t 9)),
 q 7 54 (oIdxS 1 (t 52) (t 53)),
 r 8 55 (oLoad (t 54)),
 q 9 56 (oArith .add (t 51) (t 55)),
 q 10 57 (oIdxS 1 (t 47) (t 49)),
 h0 11 (oStore 1 (t 57) (t 56))])))
 (.ops [q 0 58 (oArith .add (t 44) (i 1)),
 q 1 44 (oMv (t 58))])))))))
 (.seq (.ops [q 0 59 (oMv (t 0)),
 r 1 60 (oLen .slice (t 59)),
 q 2 61 (oMkSlice 1 8 [(.int .i64 0)] (t 60) (t 60)),
 q 3 10 (oMv (t 61))])
 (.seq (.seq (.ops [q 0 62 (oMv (t 0)),
 r 1 63 (oLen .slice (t 62)),
 q 2 64 (oMv (i 0))])
 (.block 6 (.loop (.seq (.ops [q 0 65 (oArith .lss (t 64) (t 63))])
 (.seq (.cond (t 65) (.skip)
 (.exit 6))
 (.seq (.block 7 (.seq (.ops [q 0 66 (oMv (t 64)),
 q 1 67 (oIdxS 1 (t 62) (t 64)),
 r 2 68 (oLoad (t 67)),
 q 3 11 (oMv (t 66)),
 q 4 12 (oMv (t 68))])
 (.seq (.ops [q 0 69 (oMv (t 10)),
 q 1 70 (oMv (t 11)),
 q 2 71 (oMv (t 6)),
 q 3 72 (oMv (t 12)),
 q 4 73 (oIdxS 1 (t 71) (t 72)),
 r 5 74 (oLoad (t 73)),
 q 6 75 (oIdxS 1 (t 69) (t 70)),
 h0 7 (oStore 1 (t 75) (t 74))])
 (.ops [q 0 76 (oMv (t 6)),
 q 1 77 (oMv (t 12)),
 q 2 78 (oIdxS 1 (t 76) (t 77)),
 r 3 79 (oLoad (t 78)),
 q 4 80 (oArith .add (t 79) (i 1)),
 q 5 81 (oIdxS 1 (t 76) (t 77)),
 h0 6 (oStore 1 (t 81) (t 80))]))))
 (.ops [q 0 82 (oArith .add (t 64) (i 1)),
 q 1 64 (oMv (t 82))])))))))
 (.seq (.ops [q 0 83 (oMv (t 10)),
 q 1 2 (oMv (t 83))])
 (.ret)))))))))))⟩
/-- (*tangram/lr.test).constrain -/
noncomputable def a301 : AF := ⟨[.tmp 6],
 (.seq (.ops [q 0 6 (oMv (b false))])
 (.seq (.ops [r 0 10 (oLoadN 2 (.val (.pointer (some ⟨0, 0, none⟩)))),
 r 1 11 (oLoadN 2 (.val (.pointer (some ⟨0, 0, none⟩)))),
 q 2 12 (oBuild [(.int .i64 0), (.int .i64 0), (.int .i64 0), (.int .i64 0)] [(0, 2), (2, 2)] [(t 10), (t 11)]),
 q 3 7 (oAlloc [(.int .i64 0), (.int .i64 0), (.int .i64 0), (.int .i64 0)]),
 h0 4 (oStore 4 (t 7) (t 12))])
 (.seq (.block 0 (.loop (.seq (.seq (.drawn [q 0 13 (oMv (t 0)),
 q 1 14 (oNilCheck (t 13)),
 q 2 15 (oFieldAddr 10 (t 14)),
 r 3 16 (oLoad (t 15)),
 r 4 17 (oLen .slice (t 16)),
 q 5 18 (oMv (t 0)),
 q 6 19 (oNilCheck (t 18)),
 q 7 20 (oFieldAddr 13 (t 19)),
 r 8 21 (oLoad (t 20)),
 q 9 22 (oMv (t 1)),
 q 10 23 (oIdxS 1 (t 21) (t 22)),
 r 11 24 (oLoad (t 23)),
 q 12 25 (oArith .gtr (t 17) (t 24))])
 (.cond (t 25) (.skip)
 (.exit 0)))
 (.block 1 (.seq (.ops [q 0 26 (oMv (t 0)),
 c 1 27 303 [(t 26)],
 q 2 8 (oAlloc [(.int .i64 0), (.int .i64 0), (.int .i64 0), (.int .i64 0)]),
 h0 3 (oStore 4 (t 8) (t 27))])
 (.seq (.seq (.ops [q 0 28 (oFieldAddr 0 (t 8)),
 r 1 29 (oLoadN 2 (t 28)),
 r 2 30 (oLoadN 2 (.val (.pointer (some ⟨0, 0, none⟩)))),
 q 3 31 (oEq true (.ints 2) (t 29) (t 30))])
 (.cond (t 31) (.ops [q 0 32 (oFieldAddr 2 (t 8)),
 r 1 33 (oLoadN 2 (t 32)),
 q 2 34 (oFieldAddr 0 (t 8)),
 r 3 35 (oLoadN 2 (t 34)),
 q 4 36 (oFieldAddr 0 (t 8)),
 h0 5 (oStore 2 (t 36) (t 33)),
 q 6 37 (oFieldAddr 2 (t 8)),
 h0 7 (oStore 2 (t 37) (t 35))])
 (.skip)))
 (.seq (.seq (.ops [q 0 38 (oFieldAddr 0 (t 8)),
 r 1 39 (oLoadN 2 (t 38)),
 r 2 40 (oLoadN 2 (.val (.pointer (some ⟨0, 0, none⟩)))),
 q 3 41 (oEq true (.ints 2) (t 39) (t 40))])
 (.cond (t 41) (.seq (.ops [q 0 6 (oMv (b false))])
 (.ret))
 (.skip)))
 (.seq (.drawn [q 0 42 (oMv (t 0)),
 q 1 43 (oNilCheck (t 42)),
 q 2 44 (oFieldAddr 6 (t 43)),
 q 3 45 (oFieldAddr 0 (t 44)),
 r 4 46 (oLoad (t 45)),
 q 5 47 (oFieldAddr 2 (t 8)),
 q 6 48 (oFieldAddr 0 (t 47)),
 r 7 49 (oLoad (t 48)),
 q 8 50 (oIdxS 1 (t 46) (t 49)),
 r 9 51 (oLoad (t 50)),
 q 10 52 (oMv (t 0)),
 q 11 53 (oNilCheck (t 52)),
 q 12 54 (oFieldAddr 6 (t 53)),
 q 13 55 (oFieldAddr 0 (t 54)),
 r 14 56 (oLoad (t 55)),
 q 15 57 (oMv (t 2)),
 q 16 58 (oIdxS 1 (t 56) (t 57)),
 r 17 59 (oLoad (t 58)),
 q 18 60 (oArith .gtr (t 51) (t 59))])
 (.cond (t 60) (.ops [q 0 61 (oMv (t 0)),
 q 1 62 (oFieldAddr 2 (t 7)),
 r 2 63 (oLoadN 2 (t 62)),
 q 3 64 (oFieldAddr 2 (t 8)),
 r 4 65 (oLoadN 2 (t 64)),
 c 5 66 333 [(t 61), (t 63), (t 65)],
 q 6 67 (oFieldAddr 2 (t 7)),
 h0 7 (oStore 2 (t 67) (t 66))])
 (.drawn [q 0 68 (oMv (t 0)),
 q 1 69 (oNilCheck (t 68)),
 q 2 70 (oFieldAddr 11 (t 69)),
 r 3 71 (oLoad (t 70)),
 q 4 72 (oFieldAddr 2 (t 8)),
 q 5 73 (oFieldAddr 0 (t 72)),
 r 6 74 (oLoad (t 73)),
 q 7 75 (oMv (t 0)),
 q 8 76 (oNilCheck (t 75)),
 q 9 77 (oFieldAddr 14 (t 76)),
 r 10 78 (oLoad (t 77)),
 q 11 79 (oMv (t 2)),
 q 12 80 (oIdxS 1 (t 78) (t 79)),
 r 13 81 (oLoad (t 80)),
 q 14 82 (oIdxS 1 (t 71) (t 74)),
 h0 15 (oStore 1 (t 82) (t 81))]))))))))))
 (.seq (.skip)
 (.seq (.block 2 (.loop (.seq (.seq (.ops [q 0 83 (oMv (t 0)),
 q 1 84 (oNilCheck (t 83)),
 q 2 85 (oFieldAddr 10 (t 84)),
 r 3 86 (oLoad (t 85)),
 r 4 87 (oLen .slice (t 86)),
 q 5 88 (oArith .gtr (t 87) (i 0))])
 (.cond (t 88) (.skip)
 (.exit 2)))
 (.block 3 (.seq (.drawn [q 0 89 (oMv (t 0)),
 q 1 90 (oNilCheck (t 89)),
 q 2 91 (oFieldAddr 10 (t 90)),
 r 3 92 (oLoad (t 91)),
 q 4 93 (oMv (t 0)),
 q 5 94 (oNilCheck (t 93)),
 q 6 95 (oFieldAddr 10 (t 94)),
 r 7 96 (oLoad (t 95)),
 r 8 97 (oLen .slice (t 96)),
 q 9 98 (oArith .sub (t 97) (i 1)),
 q 10 99 (oIdxS 4 (t 92) (t 98)),
 r 11 100 (oLoadN 4 (t 99)),
 q 12 9 (oAlloc [(.int .i64 0), (.int .i64 0), (.int .i64 0), (.int .i64 0)]),
 h0 13 (oStore 4 (t 9) (t 100))])
 (.seq (.seq (.ops [q 0 101 (oMv (t 0)),
 q 1 102 (oFieldAddr 0 (t 9)),
 r 2 103 (oLoadN 2 (t 102)),
 q 3 104 (oMv (t 1)),
 c 4 105 334 [(t 101), (t 103), (t 104)],
 q 5 106 (oNot (t 105)),
 q 6 107 (oMv (t 106)),
 qg 7 108 107 true (oMv (t 0)),
 qg 8 109 107 true (oFieldAddr 2 (t 9)),
 rg 9 110 107 true (oLoadN 2 (t 109)),
 qg 10 111 107 true (oMv (t 1)),
 ⟨11, some 112, some (107, true), .callF 334 [(t 108), (t 110), (t 111)], []⟩,
 qg 12 113 107 true (oNot (t 112)),
 q 13 114 (oPick (t 107) (t 113) (b false))])
 (.cond (t 114) (.exit 2)
 (.skip)))
 (.seq (.ops [q 0 115 (oMv (t 0)),
 c 1 116 303 [(t 115)]])
 (.seq (.seq (.ops [q 0 117 (oMv (t 0)),
 q 1 118 (oFieldAddr 2 (t 9)),
 r 2 119 (oLoadN 2 (t 118)),
 q 3 120 (oMv (t 1)),
 c 4 121 334 [(t 117), (t 119), (t 120)]])
 (.cond (t 121) (.ops [q 0 122 (oFieldAddr 2 (t 9)),
 r 1 123 (oLoadN 2 (t 122)),
 q 2 124 (oFieldAddr 0 (t 9)),
 r 3 125 (oLoadN 2 (t 124)),
 q 4 126 (oFieldAddr 0 (t 9)),
 h0 5 (oStore 2 (t 126) (t 123)),
 q 6 127 (oFieldAddr 2 (t 9)),
 h0 7 (oStore 2 (t 127) (t 125))])
 (.skip)))
 (.seq (.seq (.ops [q 0 128 (oMv (t 0)),
 q 1 129 (oFieldAddr 2 (t 9)),
 r 2 130 (oLoadN 2 (t 129)),
 q 3 131 (oMv (t 1)),
 c 4 132 334 [(t 128), (t 130), (t 131)]])
 (.cond (t 132) (.seq (.ops [q 0 6 (oMv (b false))])
 (.ret))
 (.skip)))
 (.seq (.ops [q 0 133 (oMv (t 0)),
 q 1 134 (oFieldAddr 2 (t 7)),
 r 2 135 (oLoadN 2 (t 134)),
 q 3 136 (oFieldAddr 2 (t 9)),
 r 4 137 (oLoadN 2 (t 136)),
 c 5 138 333 [(t 133), (t 135), (t 137)],
 q 6 139 (oFieldAddr 2 (t 7)),
 h0 7 (oStore 2 (t 139) (t 138))])
 (.ops [q 0 140 (oMv (t 0)),
 q 1 141 (oFieldAddr 0 (t 7)),
 r 2 142 (oLoadN 2 (t 141)),
 q 3 143 (oFieldAddr 0 (t 9)),
 r 4 144 (oLoadN 2 (t 143)),
 c 5 145 333 [(t 140), (t 142), (t 144)],
 q 6 146 (oFieldAddr 0 (t 7)),
 h0 7 (oStore 2 (t 146) (t 145))])))))))))))
 (.seq (.seq (.ops [r 0 147 (oLoadN 4 (t 7)),
 r 1 148 (oLoadN 2 (.val (.pointer (some ⟨0, 0, none⟩)))),
 r 2 149 (oLoadN 2 (.val (.pointer (some ⟨0, 0, none⟩)))),
 q 3 150 (oBuild [(.int .i64 0), (.int .i64 0), (.int .i64 0), (.int .i64 0)] [(0, 2), (2, 2)] [(t 148), (t 149)]),
 q 4 151 (oEq true (.ints 4) (t 147) (t 150))])
 (.cond (t 151) (.drawn [q 0 152 (oMv (t 0)),
 q 1 153 (oMv (t 0)),
 q 2 154 (oNilCheck (t 153)),
 q 3 155 (oFieldAddr 10 (t 154)),
 r 4 156 (oLoad (t 155)),
 r 5 157 (oLoadN 4 (t 7)),
 q 6 158 (oBuildSlice 4 1 [(.int .i64 0), (.int .i64 0), (.int .i64 0), (.int .i64 0)] [(0, 4)] [(t 157)]),
 h 7 159 (oAppend 4 32 (t 156) (t 158)),
 q 8 160 (oNilCheck (t 152)),
 q 9 161 (oFieldAddr 10 (t 160)),
 h0 10 (oStore 1 (t 161) (t 159))])
 (.skip)))
 (.seq (.ops [q 0 6 (oMv (b true))])
 (.ret))))))))⟩
/-- (*tangram/lr.test).least -/
noncomputable def a302 : AF := ⟨[.tmp 4],
 (.seq (.ops [q 0 3 (oBox (t 1)),
 q 1 4 (oMv (i 0))])
 (.seq (.block 0 (.seq (.ops [q 0 6 (oFieldAddr 0 (t 3)),
 r 1 7 (oLoadN 2 (t 6)),
 r 2 8 (oLoadN 2 (.val (.pointer (some ⟨0, 0, none⟩)))),
 q 3 9 (oEq false (.ints 2) (t 7) (t 8)),
 q 4 5 (oMv (t 9))])
 (.cond (t 5) (.seq (.drawn [q 0 10 (oMv (t 0)),
 q 1 11 (oNilCheck (t 10)),
 q 2 12 (oFieldAddr 6 (t 11)),
 q 3 13 (oFieldAddr 0 (t 12)),
 r 4 14 (oLoad (t 13)),
 q 5 15 (oFieldAddr 2 (t 3)),
 q 6 16 (oFieldAddr 0 (t 15)),
 r 7 17 (oLoad (t 16)),
 q 8 18 (oIdxS 1 (t 14) (t 17)),
 r 9 19 (oLoad (t 18)),
 q 10 4 (oMv (t 19))])
 (.ret))
 (.seq (.ops [q 0 21 (oFieldAddr 2 (t 3)),
 r 1 22 (oLoadN 2 (t 21)),
 r 2 23 (oLoadN 2 (.val (.pointer (some ⟨0, 0, none⟩)))),
 q 3 24 (oEq false (.ints 2) (t 22) (t 23)),
 q 4 20 (oMv (t 24))])
 (.cond (t 20) (.seq (.drawn [q 0 25 (oMv (t 0)),
 q 1 26 (oNilCheck (t 25)),
 q 2 27 (oFieldAddr 6 (t 26)),
 q 3 28 (oFieldAddr 0 (t 27)),
 r 4 29 (oLoad (t 28)),
 q 5 30 (oFieldAddr 0 (t 3)),
 q 6 31 (oFieldAddr 0 (t 30)),
 r 7 32 (oLoad (t 31)),
 q 8 33 (oIdxS 1 (t 29) (t 32)),
 r 9 34 (oLoad (t 33)),
 q 10 4 (oMv (t 34))])
 (.ret))
 (.skip))))))
 (.seq (.drawn [q 0 35 (oMv (t 0)),
 q 1 36 (oNilCheck (t 35)),
 q 2 37 (oFieldAddr 6 (t 36)),
 q 3 38 (oFieldAddr 0 (t 37)),
 r 4 39 (oLoad (t 38)),
 q 5 40 (oFieldAddr 0 (t 3)),
 q 6 41 (oFieldAddr 0 (t 40)),
 r 7 42 (oLoad (t 41)),
 q 8 43 (oIdxS 1 (t 39) (t 42)),
 r 9 44 (oLoad (t 43)),
 q 10 45 (oMv (t 0)),
 q 11 46 (oNilCheck (t 45)),
 q 12 47 (oFieldAddr 6 (t 46)),
 q 13 48 (oFieldAddr 0 (t 47)),
 r 14 49 (oLoad (t 48)),
 q 15 50 (oFieldAddr 2 (t 3)),
 q 16 51 (oFieldAddr 0 (t 50)),
 r 17 52 (oLoad (t 51)),
 q 18 53 (oIdxS 1 (t 49) (t 52)),
 r 19 54 (oLoad (t 53)),
 q 20 55 (oMin (t 44) [(t 54)]),
 q 21 4 (oMv (t 55))])
 (.ret))))⟩
/-- (*tangram/lr.test).pop -/
noncomputable def a303 : AF := ⟨[.cellN 2 4],
 (.seq (.ops [q 0 2 (oAlloc [(.int .i64 0), (.int .i64 0), (.int .i64 0), (.int .i64 0)])])
 (.seq (.drawn [q 0 4 (oMv (t 0)),
 q 1 5 (oNilCheck (t 4)),
 q 2 6 (oFieldAddr 10 (t 5)),
 r 3 7 (oLoad (t 6)),
 q 4 8 (oMv (t 0)),
 q 5 9 (oNilCheck (t 8)),
 q 6 10 (oFieldAddr 10 (t 9)),
 r 7 11 (oLoad (t 10)),
 r 8 12 (oLen .slice (t 11)),
 q 9 13 (oArith .sub (t 12) (i 1)),
 q 10 14 (oIdxS 4 (t 7) (t 13)),
 r 11 15 (oLoadN 4 (t 14)),
 q 12 3 (oAlloc [(.int .i64 0), (.int .i64 0), (.int .i64 0), (.int .i64 0)]),
 h0 13 (oStore 4 (t 3) (t 15))])
 (.seq (.drawn [q 0 16 (oMv (t 0)),
 q 1 17 (oMv (t 0)),
 q 2 18 (oNilCheck (t 17)),
 q 3 19 (oFieldAddr 10 (t 18)),
 r 4 20 (oLoad (t 19)),
 q 5 21 (oMv (t 0)),
 q 6 22 (oNilCheck (t 21)),
 q 7 23 (oFieldAddr 10 (t 22)),
 r 8 24 (oLoad (t 23)),
 r 9 25 (oLen .slice (t 24)),
 q 10 26 (oArith .sub (t 25) (i 1)),
 q 11 27 (oSlice 4 (t 20) none (some (t 26)) none),
 q 12 28 (oNilCheck (t 16)),
 q 13 29 (oFieldAddr 10 (t 28)),
 h0 14 (oStore 1 (t 29) (t 27))])
 (.seq (.ops [r 0 30 (oLoadN 4 (t 3)),
 h0 1 (oStore 4 (t 2) (t 30))])
 (.ret)))))⟩
/-- (*tangram/lr.test).trim -/
noncomputable def a304 : AF := ⟨[.cellN 8 2],
 (.seq (.ops [q 0 5 (oBox (t 1)),
 q 1 6 (oBox (t 2)),
 q 2 8 (oAlloc [(.int .i64 0), (.int .i64 0)])])
 (.seq (.seq (.ops [r 0 11 (oLoadN 2 (t 5)),
 r 1 12 (oLoadN 2 (.val (.pointer (some ⟨0, 0, none⟩)))),
 q 2 13 (oEq false (.ints 2) (t 11) (t 12))])
 (.cond (t 13) (.seq (.ops [r 0 14 (oLoadN 2 (t 5)),
 h0 1 (oStore 2 (t 8) (t 14))])
 (.ret))
 (.skip)))
 (.seq (.block 0 (.loop (.seq (.seq (.ops [q 0 15 (oFieldAddr 1 (t 5)),
 r 1 16 (oLoad (t 15)),
 q 2 17 (oArith .neq (t 16) (i (-1)))])
 (.cond (t 17) (.skip)
 (.exit 0)))
 (.block 1 (.seq (.seq (.ops [q 0 19 (oMv (t 0)),
 q 1 20 (oFieldAddr 1 (t 5)),
 r 2 21 (oLoad (t 20)),
 c 3 22 176 [(t 19), (t 21)],
 q 4 18 (oMv (t 22)),
 q 5 23 (oExtract 0 (t 18)),
 q 6 24 (oExtract 1 (t 18)),
 q 7 9 (oMv (t 23)),
 q 8 10 (oMv (t 24))])
 (.seq (.ops [q 0 25 (oMv (t 10)),
 q 1 26 (oMv (t 3)),
 q 2 27 (oArith .neq (t 25) (t 26))])
 (.cond (t 27) (.seq (.ops [r 0 28 (oLoadN 2 (t 5)),
 h0 1 (oStore 2 (t 8) (t 28))])
 (.ret))
 (.skip))))
 (.seq (.seq (.ops [q 0 29 (oFieldAddr 1 (t 5)),
 r 1 30 (oLoad (t 29)),
 q 2 31 (oFieldAddr 0 (t 5)),
 r 3 32 (oLoad (t 31)),
 q 4 33 (oArith .eql (t 30) (t 32))])
 (.cond (t 33) (.seq (.ops [q 0 34 (oFieldAddr 1 (t 5)),
 h0 1 (oStore 1 (t 34) (i (-1)))])
 (.exit 0))
 (.skip)))
 (.drawn [q 0 35 (oMv (t 0)),
 q 1 36 (oNilCheck (t 35)),
 q 2 37 (oFieldAddr 11 (t 36)),
 r 3 38 (oLoad (t 37)),
 q 4 39 (oFieldAddr 1 (t 5)),
 r 5 40 (oLoad (t 39)),
 q 6 41 (oIdxS 1 (t 38) (t 40)),
 r 7 42 (oLoad (t 41)),
 q 8 43 (oFieldAddr 1 (t 5)),
 h0 9 (oStore 1 (t 43) (t 42))])))))))
 (.seq (.drawn [q 0 44 (oMv (t 0)),
 q 1 45 (oNilCheck (t 44)),
 q 2 46 (oFieldAddr 11 (t 45)),
 r 3 47 (oLoad (t 46)),
 q 4 48 (oFieldAddr 0 (t 5)),
 r 5 49 (oLoad (t 48)),
 q 6 50 (oFieldAddr 0 (t 6)),
 r 7 51 (oLoad (t 50)),
 q 8 52 (oIdxS 1 (t 47) (t 49)),
 h0 9 (oStore 1 (t 52) (t 51))])
 (.seq (.drawn [q 0 53 (oMv (t 0)),
 q 1 54 (oNilCheck (t 53)),
 q 2 55 (oFieldAddr 12 (t 54)),
 r 3 56 (oLoad (t 55)),
 q 4 57 (oFieldAddr 0 (t 5)),
 r 5 58 (oLoad (t 57)),
 q 6 59 (oIdxS 1 (t 56) (t 58)),
 h0 7 (oStore 1 (t 59) (i (-1)))])
 (.seq (.ops [r 0 60 (oLoadN 2 (.val (.pointer (some ⟨0, 0, none⟩)))),
 h0 1 (oStore 2 (t 8) (t 60))])
 (.ret)))))))⟩
/-- math/bits.Len -/
noncomputable def a307 : AF := ⟨[.tmp 2],
 (.seq (.ops [q 0 2 (oMv (i 0))])
 (.seq (.cond (b false) (.seq (.ops [q 0 3 (oMv (t 0)),
 q 1 4 (oConv .u32 (t 3)),
 c 2 5 343 [(t 4)],
 q 3 2 (oMv (t 5))])
 (.ret))
 (.skip))
 (.seq (.ops [q 0 6 (oMv (t 0)),
 c 1 7 344 [(t 6)],
 q 2 2 (oMv (t 7))])
 (.ret))))⟩
/-- cmp.isNaN[int] -/
noncomputable def a317 : AF := ⟨[.tmp 2],
 (.seq (.ops [q 0 2 (oMv (b false))])
 (.seq (.ops [q 0 3 (oMv (t 0)),
 q 1 4 (oMv (t 0)),
 q 2 5 (oArith .neq (t 3) (t 4)),
 q 3 2 (oMv (t 5))])
 (.ret)))⟩
/-- (*tangram/csr.Adj).N -/
noncomputable def a329 : AF := ⟨[.tmp 2],
 (.seq (.ops [q 0 2 (oMv (i 0))])
 (.seq (.seq (.ops [q 0 3 (oMv (t 0)),
 q 1 4 (oEq false .ptrNil (t 3) (.val (.pointer none)))])
 (.cond (t 4) (.seq (.ops [q 0 2 (oMv (i 0))])
 (.ret))
 (.skip)))
 (.seq (.ops [q 0 5 (oMv (t 0)),
 q 1 6 (oNilCheck (t 5)),
 q 2 7 (oFieldAddr 1 (t 6)),
 r 3 8 (oLoad (t 7)),
 r 4 9 (oLen .slice (t 8)),
 q 5 10 (oArith .sub (t 9) (i 1)),
 q 6 2 (oMv (t 10))])
 (.ret))))⟩
/-- slices.AppendSeq[[]int,int] -/
noncomputable def a331 : AF := ⟨[.tmp 4],
 (.seq (.ops [q 0 2 (oBox (t 0)),
 q 1 4 (oMv (.val (.slice none 0 0)))])
 (.seq (.seq (.ops [q 0 6 (oMv (t 1))])
 (.block 0 (.range (t 6) 331006)))
 (.seq (.ops [r 0 12 (oLoad (t 2)),
 q 1 4 (oMv (t 12))])
 (.ret))))⟩
noncomputable def l331006 : AL := ⟨[7],
 (.ops [q 0 5 (oMv (t 7))]),
 (.block 1 (.ops [r 0 8 (oLoad (t 2)),
 q 1 9 (oMv (t 5)),
 q 2 10 (oBuildSlice 1 1 [(.int .i64 0)] [(0, 1)] [(t 9)]),
 h 3 11 (oAppend 1 8 (t 8) (t 10)),
 h0 4 (oStore 1 (t 2) (t 11))]))⟩
/-- slices.pdqsortOrdered[int] -/
noncomputable def a332 : AF := ⟨[],
 (.seq (.ops [q 0 8 (oMv (b true))])
 (.seq (.ops [q 0 9 (oMv (b true))])
 (.block 0 (.loop (.block 1 (.seq (.ops [q 0 19 (oMv (t 2)),
 q 1 20 (oMv (t 1)),
 q 2 21 (oArith .sub (t 19) (t 20)),
 q 3 10 (oMv (t 21))])
 (.seq (.seq (.ops [q 0 22 (oMv (t 10)),
 q 1 23 (oArith .leq (t 22) (i 12))])
 (.cond (t 23) (.seq (.ops [q 0 24 (oMv (t 0)),
 q 1 25 (oMv (t 1)),
 q 2 26 (oMv (t 2)),
 c 3 27 351 [(t 24), (t 25), (t 26)]])
 (.ret))
 (.skip)))
 (.seq (.seq (.ops [q 0 28 (oMv (t 3)),
 q 1 29 (oArith .eql (t 28) (i 0))])
 (.cond (t 29) (.seq (.ops [q 0 30 (oMv (t 0)),
 q 1 31 (oMv (t 1)),
 q 2 32 (oMv (t 2)),
 c 3 33 352 [(t 30), (t 31), (t 32)]])
 (.ret))
 (.skip)))
 (.seq (.seq (.ops [q 0 34 (oMv (t 8)),
 q 1 35 (oNot (t 34))])
 (.cond (t 35) (.seq (.ops [q 0 36 (oMv (t 0)),
 q 1 37 (oMv (t 1)),
 q 2 38 (oMv (t 2)),
 c 3 39 353 [(t 36), (t 37), (t 38)]])
 (.ops [q 0 40 (oMv (t 3)),
 q 1 41 (oArith .sub (t 40) (i 1)),
 q 2 3 (oMv (t 41))]))
 (.skip)))
 (.seq (.ops [q 0 43 (oMv (t 0)),
 q 1 44 (oMv (t 1)),
 q 2 45 (oMv (t 2)),
 c 3 46 354 [(t 43), (t 44), (t 45)],
 q 4 42 (oMv (t 46)),
 q 5 47 (oExtract 0 (t 42)),
 q 6 48 (oExtract 1 (t 42)),
 q 7 11 (oMv (t 47)),
 q 8 12 (oMv (t 48))])
 (.seq (.seq (.ops [q 0 49 (oMv (t 12)),
 q 1 50 (oArith .eql (t 49) (i 2))])
 (.cond (t 50) (.seq (.ops [q 0 51 (oMv (t 0)),
 q 1 52 (oMv (t 1)),
 q 2 53 (oMv (t 2)),
 c 3 54 355 [(t 51), (t 52), (t 53)]])
 (.seq (.ops [q 0 55 (oMv (t 2)),
 q 1 56 (oArith .sub (t 55) (i 1)),
 q 2 57 (oMv (t 11)),
 q 3 58 (oMv (t 1)),
 q 4 59 (oArith .sub (t 57) (t 58)),
 q 5 60 (oArith .sub (t 56) (t 59)),
 q 6 11 (oMv (t 60))])
 (.ops [q 0 12 (oMv (i 1))])))
 (.skip)))
 (.seq (.seq (.ops [q 0 61 (oMv (t 8)),
 q 1 62 (oMv (t 61)),
 qg 2 63 62 true (oMv (t 9)),
 q 3 64 (oPick (t 62) (t 63) (b false)),
 q 4 65 (oMv (t 64)),
 qg 5 66 65 true (oMv (t 12)),
 qg 6 67 65 true (oArith .eql (t 66) (i 1)),
 q 7 68 (oPick (t 65) (t 67) (b false))])
 (.cond (t 68) (.seq (.ops [q 0 69 (oMv (t 0)),
 q 1 70 (oMv (t 1)),
 q 2 71 (oMv (t 2)),
 c 3 72 356 [(t 69), (t 70), (t 71)]])
 (.cond (t 72) (.ret)
 (.skip)))
 (.skip)))
 (.seq (.seq (.drawn [q 0 73 (oMv (t 1)),
 q 1 74 (oArith .gtr (t 73) (i 0)),
 q 2 75 (oMv (t 74)),
 qg 3 76 75 true (oMv (t 0)),
 qg 4 77 75 true (oMv (t 1)),
 qg 5 78 75 true (oArith .sub (t 77) (i 1)),
 qg 6 79 75 true (oIdxS 1 (t 76) (t 78)),
 rg 7 80 75 true (oLoad (t 79)),
 qg 8 81 75 true (oMv (t 0)),
 qg 9 82 75 true (oMv (t 11)),
 qg 10 83 75 true (oIdxS 1 (t 81) (t 82)),
 rg 11 84 75 true (oLoad (t 83)),
 ⟨12, some 85, some (75, true), .callF 357 [(t 80), (t 84)], []⟩,
 qg 13 86 75 true (oNot (t 85)),
 q 14 87 (oPick (t 75) (t 86) (b false))])
 (.cond (t 87) (.seq (.ops [q 0 88 (oMv (t 0)),
 q 1 89 (oMv (t 1)),
 q 2 90 (oMv (t 2)),
 q 3 91 (oMv (t 11)),
 c 4 92 358 [(t 88), (t 89), (t 90), (t 91)],
 q 5 13 (oMv (t 92))])
 (.seq (.ops [q 0 93 (oMv (t 13)),
 q 1 1 (oMv (t 93))])
 (.exit 1)))
 (.skip)))
 (.seq (.ops [q 0 95 (oMv (t 0)),
 q 1 96 (oMv (t 1)),
 q 2 97 (oMv (t 2)),
 q 3 98 (oMv (t 11)),
 c 4 99 359 [(t 95), (t 96), (t 97), (t 98)],
 q 5 94 (oMv (t 99)),
 q 6 100 (oExtract 0 (t 94)),
 q 7 101 (oExtract 1 (t 94)),
 q 8 14 (oMv (t 100)),
 q 9 15 (oMv (t 101))])
 (.seq (.ops [q 0 102 (oMv (t 15)),
 q 1 9 (oMv (t 102))])
 (.seq (.ops [q 0 103 (oMv (t 14)),
 q 1 104 (oMv (t 1)),
 q 2 105 (oArith .sub (t 103) (t 104)),
 q 3 106 (oMv (t 2)),
 q 4 107 (oMv (t 14)),
 q 5 108 (oArith .sub (t 106) (t 107)),
 q 6 16 (oMv (t 105)),
 q 7 17 (oMv (t 108))])
 (.seq (.ops [q 0 109 (oMv (t 10)),
 q 1 110 (oArith .quo (t 109) (i 8)),
 q 2 18 (oMv (t 110))])
 (.seq (.ops [q 0 111 (oMv (t 16)),
 q 1 112 (oMv (t 17)),
 q 2 113 (oArith .lss (t 111) (t 112))])
 (.cond (t 113) (.seq (.ops [q 0 114 (oMv (t 16)),
 q 1 115 (oMv (t 18)),
 q 2 116 (oArith .geq (t 114) (t 115)),
 q 3 8 (oMv (t 116))])
 (.seq (.ops [q 0 117 (oMv (t 0)),
 q 1 118 (oMv (t 1)),
 q 2 119 (oMv (t 14)),
 q 3 120 (oMv (t 3)),
 c 4 121 332 [(t 117), (t 118), (t 119), (t 120)]])
 (.ops [q 0 122 (oMv (t 14)),
 q 1 123 (oArith .add (t 122) (i 1)),
 q 2 1 (oMv (t 123))])))
 (.seq (.ops [q 0 124 (oMv (t 17)),
 q 1 125 (oMv (t 18)),
 q 2 126 (oArith .geq (t 124) (t 125)),
 q 3 8 (oMv (t 126))])
 (.seq (.ops [q 0 127 (oMv (t 0)),
 q 1 128 (oMv (t 14)),
 q 2 129 (oArith .add (t 128) (i 1)),
 q 3 130 (oMv (t 2)),
 q 4 131 (oMv (t 3)),
 c 5 132 332 [(t 127), (t 129), (t 130), (t 131)]])
 (.ops [q 0 133 (oMv (t 14)),
 q 1 2 (oMv (t 133))]))))))))))))))))))))))⟩
/-- (*tangram/lr.test).under -/
noncomputable def a333 : AF := ⟨[.cellN 6 2],
 (.seq (.ops [q 0 4 (oBox (t 1)),
 q 1 5 (oBox (t 2)),
 q 2 6 (oAlloc [(.int .i64 0), (.int .i64 0)])])
 (.seq (.block 0 (.seq (.ops [r 0 8 (oLoadN 2 (t 5)),
 r 1 9 (oLoadN 2 (.val (.pointer (some ⟨0, 0, none⟩)))),
 q 2 10 (oEq false (.ints 2) (t 8) (t 9)),
 q 3 7 (oMv (t 10))])
 (.cond (t 7) (.seq (.ops [r 0 11 (oLoadN 2 (t 4)),
 h0 1 (oStore 2 (t 6) (t 11))])
 (.ret))
 (.seq (.ops [r 0 13 (oLoadN 2 (t 4)),
 r 1 14 (oLoadN 2 (.val (.pointer (some ⟨0, 0, none⟩)))),
 q 2 15 (oEq false (.ints 2) (t 13) (t 14)),
 q 3 12 (oMv (t 15))])
 (.cond (t 12) (.seq (.ops [r 0 16 (oLoadN 2 (t 5)),
 h0 1 (oStore 2 (t 6) (t 16))])
 (.ret))
 (.skip))))))
 (.seq (.drawn [q 0 17 (oMv (t 0)),
 q 1 18 (oNilCheck (t 17)),
 q 2 19 (oFieldAddr 11 (t 18)),
 r 3 20 (oLoad (t 19)),
 q 4 21 (oFieldAddr 0 (t 4)),
 r 5 22 (oLoad (t 21)),
 q 6 23 (oFieldAddr 1 (t 5)),
 r 7 24 (oLoad (t 23)),
 q 8 25 (oIdxS 1 (t 20) (t 22)),
 h0 9 (oStore 1 (t 25) (t 24))])
 (.seq (.ops [q 0 26 (oFieldAddr 0 (t 5)),
 r 1 27 (oLoad (t 26)),
 q 2 28 (oFieldAddr 1 (t 4)),
 r 3 29 (oLoad (t 28)),
 q 4 30 (oBuild [(.int .i64 0), (.int .i64 0)] [(0, 1), (1, 1)] [(t 27), (t 29)]),
 h0 5 (oStore 2 (t 6) (t 30))])
 (.ret)))))⟩
/-- (*tangram/lr.test).conflicts -/
noncomputable def a334 : AF := ⟨[.tmp 6],
 (.seq (.ops [q 0 4 (oBox (t 1)),
 q 1 6 (oMv (b false))])
 (.seq (.drawn [r 0 7 (oLoadN 2 (t 4)),
 r 1 8 (oLoadN 2 (.val (.pointer (some ⟨0, 0, none⟩)))),
 q 2 9 (oEq true (.ints 2) (t 7) (t 8)),
 q 3 10 (oMv (t 9)),
 qg 4 11 10 true (oMv (t 0)),
 qg 5 12 10 true (oNilCheck (t 11)),
 qg 6 13 10 true (oFieldAddr 6 (t 12)),
 qg 7 14 10 true (oFieldAddr 0 (t 13)),
 rg 8 15 10 true (oLoad (t 14)),
 qg 9 16 10 true (oFieldAddr 1 (t 4)),
 rg 10 17 10 true (oLoad (t 16)),
 qg 11 18 10 true (oIdxS 1 (t 15) (t 17)),
 rg 12 19 10 true (oLoad (t 18)),
 qg 13 20 10 true (oMv (t 0)),
 qg 14 21 10 true (oNilCheck (t 20)),
 qg 15 22 10 true (oFieldAddr 6 (t 21)),
 qg 16 23 10 true (oFieldAddr 0 (t 22)),
 rg 17 24 10 true (oLoad (t 23)),
 qg 18 25 10 true (oMv (t 2)),
 qg 19 26 10 true (oIdxS 1 (t 24) (t 25)),
 rg 20 27 10 true (oLoad (t 26)),
 qg 21 28 10 true (oArith .gtr (t 19) (t 27)),
 q 22 29 (oPick (t 10) (t 28) (b false)),
 q 23 6 (oMv (t 29))])
 (.ret)))⟩
/-- math/bits.Len32 -/
noncomputable def a343 : AF := ⟨[.tmp 2],
 (.seq (.ops [q 0 2 (oMv (i 0))])
 (.seq (.seq (.ops [q 0 3 (oMv (t 0)),
 q 1 4 (oArith .geq (t 3) (.val (.int .u32 65536)))])
 (.cond (t 4) (.seq (.ops [q 0 5 (oMv (t 0)),
 q 1 6 (oShift .shr (t 5) (.val (.int .u64 16))),
 q 2 0 (oMv (t 6))])
 (.ops [q 0 2 (oMv (i 16))]))
 (.skip)))
 (.seq (.seq (.ops [q 0 7 (oMv (t 0)),
 q 1 8 (oArith .geq (t 7) (.val (.int .u32 256)))])
 (.cond (t 8) (.seq (.ops [q 0 9 (oMv (t 0)),
 q 1 10 (oShift .shr (t 9) (.val (.int .u64 8))),
 q 2 0 (oMv (t 10))])
 (.ops [q 0 11 (oMv (t 2)),
 q 1 12 (oArith .add (t 11) (i 8)),
 q 2 2 (oMv (t 12))]))
 (.skip)))
 (.seq (.ops [q 0 13 (oMv (t 2)),
 q 1 14 (oMv (t 0)),
 q 2 15 (oConv .u8 (t 14)),
 q 3 16 (oIndexStr (.val (.string ⟨#[0, 1, 2, 2, 3, 3, 3, 3, 4, 4, 4, 4, 4, 4, 4, 4, 5, 5, 5, 5, 5, 5, 5, 5, 5, 5, 5, 5, 5, 5, 5, 5, 6, 6, 6, 6, 6, 6, 6, 6, 6, 6, 6, 6, 6, 6, 6, 6, 6, 6, 6, 6, 6, 6, 6, 6, 6, 6, 6, 6, 6, 6, 6, 6, 7, 7, 7, 7, 7, 7, 7, 7, 7, 7, 7, 7, 7, 7, 7, 7, 7, 7, 7, 7, 7, 7, 7, 7, 7, 7, 7, 7, 7, 7, 7, 7, 7, 7, 7, 7, 7, 7, 7, 7, 7, 7, 7, 7, 7, 7, 7, 7, 7, 7, 7, 7, 7, 7, 7, 7, 7, 7, 7, 7, 7, 7, 7, 7, 8, 8, 8, 8, 8, 8, 8, 8, 8, 8, 8, 8, 8, 8, 8, 8, 8, 8, 8, 8, 8, 8, 8, 8, 8, 8, 8, 8, 8, 8, 8, 8, 8, 8, 8, 8, 8, 8, 8, 8, 8, 8, 8, 8, 8, 8, 8, 8, 8, 8, 8, 8, 8, 8, 8, 8, 8, 8, 8, 8, 8, 8, 8, 8, 8, 8, 8, 8, 8, 8, 8, 8, 8, 8, 8, 8, 8, 8, 8, 8, 8, 8, 8, 8, 8, 8, 8, 8, 8, 8, 8, 8, 8, 8, 8, 8, 8, 8, 8, 8, 8, 8, 8, 8, 8, 8, 8, 8, 8, 8, 8, 8, 8, 8, 8, 8, 8, 8, 8, 8, 8, 8, 8, 8, 8, 8, 8, 8]⟩)) (t 15)),
 q 4 17 (oConv .i64 (t 16)),
 q 5 18 (oArith .add (t 13) (t 17)),
 q 6 2 (oMv (t 18))])
 (.ret)))))⟩
/-- math/bits.Len64 -/
noncomputable def a344 : AF := ⟨[.tmp 2],
 (.seq (.ops [q 0 2 (oMv (i 0))])
 (.seq (.seq (.ops [q 0 3 (oMv (t 0)),
 q 1 4 (oArith .geq (t 3) (.val (.int .u64 4294967296)))])
 (.cond (t 4) (.seq (.ops [q 0 5 (oMv (t 0)),
 q 1 6 (oShift .shr (t 5) (.val (.int .u64 32))),
 q 2 0 (oMv (t 6))])
 (.ops [q 0 2 (oMv (i 32))]))
 (.skip)))
 (.seq (.seq (.ops [q 0 7 (oMv (t 0)),
 q 1 8 (oArith .geq (t 7) (.val (.int .u64 65536)))])
 (.cond (t 8) (.seq (.ops [q 0 9 (oMv (t 0)),
 q 1 10 (oShift .shr (t 9) (.val (.int .u64 16))),
 q 2 0 (oMv (t 10))])
 (.ops [q 0 11 (oMv (t 2)),
 q 1 12 (oArith .add (t 11) (i 16)),
 q 2 2 (oMv (t 12))]))
 (.skip)))
 (.seq (.seq (.ops [q 0 13 (oMv (t 0)),
 q 1 14 (oArith .geq (t 13) (.val (.int .u64 256)))])
 (.cond (t 14) (.seq (.ops [q 0 15 (oMv (t 0)),
 q 1 16 (oShift .shr (t 15) (.val (.int .u64 8))),
 q 2 0 (oMv (t 16))])
 (.ops [q 0 17 (oMv (t 2)),
 q 1 18 (oArith .add (t 17) (i 8)),
 q 2 2 (oMv (t 18))]))
 (.skip)))
 (.seq (.ops [q 0 19 (oMv (t 2)),
 q 1 20 (oMv (t 0)),
 q 2 21 (oConv .u8 (t 20)),
 q 3 22 (oIndexStr (.val (.string ⟨#[0, 1, 2, 2, 3, 3, 3, 3, 4, 4, 4, 4, 4, 4, 4, 4, 5, 5, 5, 5, 5, 5, 5, 5, 5, 5, 5, 5, 5, 5, 5, 5, 6, 6, 6, 6, 6, 6, 6, 6, 6, 6, 6, 6, 6, 6, 6, 6, 6, 6, 6, 6, 6, 6, 6, 6, 6, 6, 6, 6, 6, 6, 6, 6, 7, 7, 7, 7, 7, 7, 7, 7, 7, 7, 7, 7, 7, 7, 7, 7, 7, 7, 7, 7, 7, 7, 7, 7, 7, 7, 7, 7, 7, 7, 7, 7, 7, 7, 7, 7, 7, 7, 7, 7, 7, 7, 7, 7, 7, 7, 7, 7, 7, 7, 7, 7, 7, 7, 7, 7, 7, 7, 7, 7, 7, 7, 7, 7, 8, 8, 8, 8, 8, 8, 8, 8, 8, 8, 8, 8, 8, 8, 8, 8, 8, 8, 8, 8, 8, 8, 8, 8, 8, 8, 8, 8, 8, 8, 8, 8, 8, 8, 8, 8, 8, 8, 8, 8, 8, 8, 8, 8, 8, 8, 8, 8, 8, 8, 8, 8, 8, 8, 8, 8, 8, 8, 8, 8, 8, 8, 8, 8, 8, 8, 8, 8, 8, 8, 8, 8, 8, 8, 8, 8, 8, 8, 8, 8, 8, 8, 8, 8, 8, 8, 8, 8, 8, 8, 8, 8, 8, 8, 8, 8, 8, 8, 8, 8, 8, 8, 8, 8, 8, 8, 8, 8, 8, 8, 8, 8, 8, 8, 8, 8, 8, 8, 8, 8, 8, 8, 8, 8, 8, 8, 8, 8]⟩)) (t 21)),
 q 4 23 (oConv .i64 (t 22)),
 q 5 24 (oArith .add (t 19) (t 23)),
 q 6 2 (oMv (t 24))])
 (.ret))))))⟩
/-- slices.insertionSortOrdered[int] -/
noncomputable def a351 : AF := ⟨[],
 (.seq (.ops [q 0 8 (oMv (t 1)),
 q 1 9 (oArith .add (t 8) (i 1)),
 q 2 6 (oMv (t 9))])
 (.block 0 (.loop (.seq (.seq (.ops [q 0 10 (oMv (t 6)),
 q 1 11 (oMv (t 2)),
 q 2 12 (oArith .lss (t 10) (t 11))])
 (.cond (t 12) (.skip)
 (.exit 0)))
 (.seq (.block 1 (.seq (.ops [q 0 15 (oMv (t 6)),
 q 1 7 (oMv (t 15))])
 (.block 2 (.loop (.seq (.seq (.drawn [q 0 16 (oMv (t 7)),
 q 1 17 (oMv (t 1)),
 q 2 18 (oArith .gtr (t 16) (t 17)),
 q 3 19 (oMv (t 18)),
 qg 4 20 19 true (oMv (t 0)),
 qg 5 21 19 true (oMv (t 7)),
 qg 6 22 19 true (oIdxS 1 (t 20) (t 21)),
 rg 7 23 19 true (oLoad (t 22)),
 qg 8 24 19 true (oMv (t 0)),
 qg 9 25 19 true (oMv (t 7)),
 qg 10 26 19 true (oArith .sub (t 25) (i 1)),
 qg 11 27 19 true (oIdxS 1 (t 24) (t 26)),
 rg 12 28 19 true (oLoad (t 27)),
 ⟨13, some 29, some (19, true), .callF 357 [(t 23), (t 28)], []⟩,
 q 14 30 (oPick (t 19) (t 29) (b false))])
 (.cond (t 30) (.skip)
 (.exit 2)))
 (.seq (.block 3 (.drawn [q 0 33 (oMv (t 0)),
 q 1 34 (oMv (t 7)),
 q 2 35 (oMv (t 0)),
 q 3 36 (oMv (t 7)),
 q 4 37 (oArith .sub (t 36) (i 1)),
 q 5 38 (oMv (t 0)),
 q 6 39 (oMv (t 7)),
 q 7 40 (oArith .sub (t 39) (i 1)),
 q 8 41 (oIdxS 1 (t 38) (t 40)),
 r 9 42 (oLoad (t 41)),
 q 10 43 (oMv (t 0)),
 q 11 44 (oMv (t 7)),
 q 12 45 (oIdxS 1 (t 43) (t 44)),
 r 13 46 (oLoad (t 45)),
 q 14 47 (oIdxS 1 (t 33) (t 34)),
 h0 15 (oStore 1 (t 47) (t 42)),
 q 16 48 (oIdxS 1 (t 35) (t 37)),
 h0 17 (oStore 1 (t 48) (t 46))]))
 (.ops [q 0 31 (oMv (t 7)),
 q 1 32 (oArith .sub (t 31) (i 1)),
 q 2 7 (oMv (t 32))])))))))
 (.ops [q 0 13 (oMv (t 6)),
 q 1 14 (oArith .add (t 13) (i 1)),
 q 2 6 (oMv (t 14))]))))))⟩
/-- slices.heapSortOrdered[int] -/
noncomputable def a352 : AF := ⟨[],
 (.seq (.ops [q 0 11 (oMv (t 1)),
 q 1 6 (oMv (t 11))])
 (.seq (.ops [q 0 7 (oMv (i 0))])
 (.seq (.ops [q 0 12 (oMv (t 2)),
 q 1 13 (oMv (t 1)),
 q 2 14 (oArith .sub (t 12) (t 13)),
 q 3 8 (oMv (t 14))])
 (.seq (.seq (.ops [q 0 15 (oMv (t 8)),
 q 1 16 (oArith .sub (t 15) (i 1)),
 q 2 17 (oArith .quo (t 16) (i 2)),
 q 3 9 (oMv (t 17))])
 (.block 0 (.loop (.seq (.seq (.ops [q 0 18 (oMv (t 9)),
 q 1 19 (oArith .geq (t 18) (i 0))])
 (.cond (t 19) (.skip)
 (.exit 0)))
 (.seq (.block 1 (.ops [q 0 22 (oMv (t 0)),
 q 1 23 (oMv (t 9)),
 q 2 24 (oMv (t 8)),
 q 3 25 (oMv (t 6)),
 c 4 26 374 [(t 22), (t 23), (t 24), (t 25)]]))
 (.ops [q 0 20 (oMv (t 9)),
 q 1 21 (oArith .sub (t 20) (i 1)),
 q 2 9 (oMv (t 21))]))))))
 (.seq (.ops [q 0 27 (oMv (t 8)),
 q 1 28 (oArith .sub (t 27) (i 1)),
 q 2 10 (oMv (t 28))])
 (.block 2 (.loop (.seq (.seq (.ops [q 0 29 (oMv (t 10)),
 q 1 30 (oArith .geq (t 29) (i 0))])
 (.cond (t 30) (.skip)
 (.exit 2)))
 (.seq (.block 3 (.seq (.drawn [q 0 33 (oMv (t 0)),
 q 1 34 (oMv (t 6)),
 q 2 35 (oMv (t 0)),
 q 3 36 (oMv (t 6)),
 q 4 37 (oMv (t 10)),
 q 5 38 (oArith .add (t 36) (t 37)),
 q 6 39 (oMv (t 0)),
 q 7 40 (oMv (t 6)),
 q 8 41 (oMv (t 10)),
 q 9 42 (oArith .add (t 40) (t 41)),
 q 10 43 (oIdxS 1 (t 39) (t 42)),
 r 11 44 (oLoad (t 43)),
 q 12 45 (oMv (t 0)),
 q 13 46 (oMv (t 6)),
 q 14 47 (oIdxS 1 (t 45) (t 46)),
 r 15 48 (oLoad (t 47)),
 q 16 49 (oIdxS 1 (t 33) (t 34)),
 h0 17 (oStore 1 (t 49) (t 44)),
 q 18 50 (oIdxS 1 (t 35) (t 38)),
 h0 19 (oStore 1 (t 50) (t 48))])
 (.ops [q 0 51 (oMv (t 0)),
 q 1 52 (oMv (t 7)),
 q 2 53 (oMv (t 10)),
 q 3 54 (oMv (t 6)),
 c 4 55 374 [(t 51), (t 52), (t 53), (t 54)]])))
 (.ops [q 0 31 (oMv (t 10)),
 q 1 32 (oArith .sub (t 31) (i 1)),
 q 2 10 (oMv (t 32))]))))))))))⟩
/-- slices.breakPatternsOrdered[int] -/
noncomputable def a353 : AF := ⟨[],
 (.seq (.ops [q 0 11 (oMv (t 2)),
 q 1 12 (oMv (t 1)),
 q 2 13 (oArith .sub (t 11) (t 12)),
 q 3 6 (oMv (t 13))])
 (.seq (.ops [q 0 14 (oMv (t 6)),
 q 1 15 (oArith .geq (t 14) (i 8))])
 (.cond (t 15) (.seq (.ops [q 0 16 (oMv (t 6)),
 q 1 17 (oConv .u64 (t 16)),
 q 2 7 (oAlloc [(.int .u64 0)]),
 h0 3 (oStore 1 (t 7) (t 17))])
 (.seq (.ops [q 0 18 (oMv (t 6)),
 c 1 19 361 [(t 18)],
 q 2 8 (oMv (t 19))])
 (.seq (.ops [q 0 20 (oMv (t 1)),
 q 1 21 (oMv (t 6)),
 q 2 22 (oArith .quo (t 21) (i 4)),
 q 3 23 (oArith .mul (t 22) (i 2)),
 q 4 24 (oArith .add (t 20) (t 23)),
 q 5 25 (oArith .sub (t 24) (i 1)),
 q 6 9 (oMv (t 25))])
 (.block 0 (.loop (.seq (.seq (.ops [q 0 26 (oMv (t 9)),
 q 1 27 (oMv (t 1)),
 q 2 28 (oMv (t 6)),
 q 3 29 (oArith .quo (t 28) (i 4)),
 q 4 30 (oArith .mul (t 29) (i 2)),
 q 5 31 (oArith .add (t 27) (t 30)),
 q 6 32 (oArith .add (t 31) (i 1)),
 q 7 33 (oArith .leq (t 26) (t 32))])
 (.cond (t 33) (.skip)
 (.exit 0)))
 (.seq (.block 1 (.seq (.ops [c 0 36 362 [(t 7)],
 q 1 37 (oMv (t 8)),
 q 2 38 (oArith .sub (t 37) (.val (.int .u64 1))),
 q 3 39 (oArith .and (t 36) (t 38)),
 q 4 40 (oConv .i64 (t 39)),
 q 5 10 (oMv (t 40))])
 (.seq (.seq (.ops [q 0 41 (oMv (t 10)),
 q 1 42 (oMv (t 6)),
 q 2 43 (oArith .geq (t 41) (t 42))])
 (.cond (t 43) (.ops [q 0 44 (oMv (t 10)),
 q 1 45 (oMv (t 6)),
 q 2 46 (oArith .sub (t 44) (t 45)),
 q 3 10 (oMv (t 46))])
 (.skip)))
 (.drawn [q 0 47 (oMv (t 0)),
 q 1 48 (oMv (t 9)),
 q 2 49 (oMv (t 0)),
 q 3 50 (oMv (t 1)),
 q 4 51 (oMv (t 10)),
 q 5 52 (oArith .add (t 50) (t 51)),
 q 6 53 (oMv (t 0)),
 q 7 54 (oMv (t 1)),
 q 8 55 (oMv (t 10)),
 q 9 56 (oArith .add (t 54) (t 55)),
 q 10 57 (oIdxS 1 (t 53) (t 56)),
 r 11 58 (oLoad (t 57)),
 q 12 59 (oMv (t 0)),
 q 13 60 (oMv (t 9)),
 q 14 61 (oIdxS 1 (t 59) (t 60)),
 r 15 62 (oLoad (t 61)),
 q 16 63 (oIdxS 1 (t 47) (t 48)),
 h0 17 (oStore 1 (t 63) (t 58)),
 q 18 64 (oIdxS 1 (t 49) (t 52)),
 h0 19 (oStore 1 (t 64) (t 62))]))))
 (.ops [q 0 34 (oMv (t 9)),
 q 1 35 (oArith .add (t 34) (i 1)),
 q 2 9 (oMv (t 35))]))))))))
 (.skip))))⟩
/-- slices.choosePivotOrdered[int] -/
noncomputable def a354 : AF := ⟨[.tmp 6, .tmp 7],
 (.seq (.ops [q 0 6 (oMv (i 0)),
 q 1 7 (oMv (i 0))])
 (.seq (.ops [q 0 13 (oMv (t 2)),
 q 1 14 (oMv (t 1)),
 q 2 15 (oArith .sub (t 13) (t 14)),
 q 3 8 (oMv (t 15))])
 (.seq (.ops [q 0 9 (oAlloc [(.int .i64 0)])])
 (.seq (.ops [q 0 16 (oMv (t 1)),
 q 1 17 (oMv (t 8)),
 q 2 18 (oArith .quo (t 17) (i 4)),
 q 3 19 (oArith .mul (t 18) (i 1)),
 q 4 20 (oArith .add (t 16) (t 19)),
 q 5 10 (oMv (t 20))])
 (.seq (.ops [q 0 21 (oMv (t 1)),
 q 1 22 (oMv (t 8)),
 q 2 23 (oArith .quo (t 22) (i 4)),
 q 3 24 (oArith .mul (t 23) (i 2)),
 q 4 25 (oArith .add (t 21) (t 24)),
 q 5 11 (oMv (t 25))])
 (.seq (.ops [q 0 26 (oMv (t 1)),
 q 1 27 (oMv (t 8)),
 q 2 28 (oArith .quo (t 27) (i 4)),
 q 3 29 (oArith .mul (t 28) (i 3)),
 q 4 30 (oArith .add (t 26) (t 29)),
 q 5 12 (oMv (t 30))])
 (.seq (.seq (.ops [q 0 31 (oMv (t 8)),
 q 1 32 (oArith .geq (t 31) (i 8))])
 (.cond (t 32) (.seq (.seq (.ops [q 0 33 (oMv (t 8)),
 q 1 34 (oArith .geq (t 33) (i 50))])
 (.cond (t 34) (.seq (.ops [q 0 35 (oMv (t 0)),
 q 1 36 (oMv (t 10)),
 c 2 37 375 [(t 35), (t 36), (t 9)],
 q 3 10 (oMv (t 37))])
 (.seq (.ops [q 0 38 (oMv (t 0)),
 q 1 39 (oMv (t 11)),
 c 2 40 375 [(t 38), (t 39), (t 9)],
 q 3 11 (oMv (t 40))])
 (.ops [q 0 41 (oMv (t 0)),
 q 1 42 (oMv (t 12)),
 c 2 43 375 [(t 41), (t 42), (t 9)],
 q 3 12 (oMv (t 43))])))
 (.skip)))
 (.ops [q 0 44 (oMv (t 0)),
 q 1 45 (oMv (t 10)),
 q 2 46 (oMv (t 11)),
 q 3 47 (oMv (t 12)),
 c 4 48 376 [(t 44), (t 45), (t 46), (t 47), (t 9)],
 q 5 11 (oMv (t 48))]))
 (.skip)))
 (.seq (.ops [r 0 49 (oLoad (t 9))])
 (.block 0 (.seq (.ops [q 0 52 (oArith .eql (t 49) (i 0)),
 q 1 51 (oMv (t 52))])
 (.cond (t 51) (.seq (.ops [q 0 53 (oMv (t 11)),
 q 1 6 (oMv (t 53)),
 q 2 7 (oMv (i 1))])
 (.ret))
 (.seq (.ops [q 0 55 (oArith .eql (t 49) (i 12)),
 q 1 54 (oMv (t 55))])
 (.cond (t 54) (.seq (.ops [q 0 56 (oMv (t 11)),
 q 1 6 (oMv (t 56)),
 q 2 7 (oMv (i 2))])
 (.ret))
 (.seq (.ops [q 0 50 (oMv (t 11)),
 q 1 6 (oMv (t 50)),
 q 2 7 (oMv (i 0))])
 (.ret)))))))))))))))⟩
/-- slices.reverseRangeOrdered[int] -/
noncomputable def a355 : AF := ⟨[],
 (.seq (.ops [q 0 8 (oMv (t 1)),
 q 1 6 (oMv (t 8))])
 (.seq (.ops [q 0 9 (oMv (t 2)),
 q 1 10 (oArith .sub (t 9) (i 1)),
 q 2 7 (oMv (t 10))])
 (.block 0 (.loop (.seq (.seq (.ops [q 0 11 (oMv (t 6)),
 q 1 12 (oMv (t 7)),
 q 2 13 (oArith .lss (t 11) (t 12))])
 (.cond (t 13) (.skip)
 (.exit 0)))
 (.block 1 (.seq (.drawn [q 0 14 (oMv (t 0)),
 q 1 15 (oMv (t 6)),
 q 2 16 (oMv (t 0)),
 q 3 17 (oMv (t 7)),
 q 4 18 (oMv (t 0)),
 q 5 19 (oMv (t 7)),
 q 6 20 (oIdxS 1 (t 18) (t 19)),
 r 7 21 (oLoad (t 20)),
 q 8 22 (oMv (t 0)),
 q 9 23 (oMv (t 6)),
 q 10 24 (oIdxS 1 (t 22) (t 23)),
 r 11 25 (oLoad (t 24)),
 q 12 26 (oIdxS 1 (t 14) (t 15)),
 h0 13 (oStore 1 (t 26) (t 21)),
 q 14 27 (oIdxS 1 (t 16) (t 17)),
 h0 15 (oStore 1 (t 27) (t 25))])
 (.seq (.ops [q 0 28 (oMv (t 6)),
 q 1 29 (oArith .add (t 28) (i 1)),
 q 2 6 (oMv (t 29))])
 (.ops [q 0 30 (oMv (t 7)),
 q 1 31 (oArith .sub (t 30) (i 1)),
 q 2 7 (oMv (t 31))])))))))))⟩
/-- slices.partialInsertionSortOrdered[int] -/
noncomputable def a356 : AF := ⟨[.tmp 6],
 (.seq (.ops [q 0 6 (oMv (b false))])
 (.seq (.ops [q 0 11 (oMv (t 1)),
 q 1 12 (oArith .add (t 11) (i 1)),
 q 2 7 (oMv (t 12))])
 (.seq (.seq (.ops [q 0 8 (oMv (i 0))])
 (.block 0 (.loop (.seq (.seq (.ops [q 0 13 (oMv (t 8)),
 q 1 14 (oArith .lss (t 13) (i 5))])
 (.cond (t 14) (.skip)
 (.exit 0)))
 (.seq (.block 1 (.seq (.block 2 (.loop (.seq (.seq (.drawn [q 0 17 (oMv (t 7)),
 q 1 18 (oMv (t 2)),
 q 2 19 (oArith .lss (t 17) (t 18)),
 q 3 20 (oMv (t 19)),
 qg 4 21 20 true (oMv (t 0)),
 qg 5 22 20 true (oMv (t 7)),
 qg 6 23 20 true (oIdxS 1 (t 21) (t 22)),
 rg 7 24 20 true (oLoad (t 23)),
 qg 8 25 20 true (oMv (t 0)),
 qg 9 26 20 true (oMv (t 7)),
 qg 10 27 20 true (oArith .sub (t 26) (i 1)),
 qg 11 28 20 true (oIdxS 1 (t 25) (t 27)),
 rg 12 29 20 true (oLoad (t 28)),
 ⟨13, some 30, some (20, true), .callF 357 [(t 24), (t 29)], []⟩,
 qg 14 31 20 true (oNot (t 30)),
 q 15 32 (oPick (t 20) (t 31) (b false))])
 (.cond (t 32) (.skip)
 (.exit 2)))
 (.block 3 (.ops [q 0 33 (oMv (t 7)),
 q 1 34 (oArith .add (t 33) (i 1)),
 q 2 7 (oMv (t 34))])))))
 (.seq (.seq (.ops [q 0 35 (oMv (t 7)),
 q 1 36 (oMv (t 2)),
 q 2 37 (oArith .eql (t 35) (t 36))])
 (.cond (t 37) (.seq (.ops [q 0 6 (oMv (b true))])
 (.ret))
 (.skip)))
 (.seq (.seq (.ops [q 0 38 (oMv (t 2)),
 q 1 39 (oMv (t 1)),
 q 2 40 (oArith .sub (t 38) (t 39)),
 q 3 41 (oArith .lss (t 40) (i 50))])
 (.cond (t 41) (.seq (.ops [q 0 6 (oMv (b false))])
 (.ret))
 (.skip)))
 (.seq (.drawn [q 0 42 (oMv (t 0)),
 q 1 43 (oMv (t 7)),
 q 2 44 (oMv (t 0)),
 q 3 45 (oMv (t 7)),
 q 4 46 (oArith .sub (t 45) (i 1)),
 q 5 47 (oMv (t 0)),
 q 6 48 (oMv (t 7)),
 q 7 49 (oArith .sub (t 48) (i 1)),
 q 8 50 (oIdxS 1 (t 47) (t 49)),
 r 9 51 (oLoad (t 50)),
 q 10 52 (oMv (t 0)),
 q 11 53 (oMv (t 7)),
 q 12 54 (oIdxS 1 (t 52) (t 53)),
 r 13 55 (oLoad (t 54)),
 q 14 56 (oIdxS 1 (t 42) (t 43)),
 h0 15 (oStore 1 (t 56) (t 51)),
 q 16 57 (oIdxS 1 (t 44) (t 46)),
 h0 17 (oStore 1 (t 57) (t 55))])
 (.seq (.seq (.ops [q 0 58 (oMv (t 7)),
 q 1 59 (oMv (t 1)),
 q 2 60 (oArith .sub (t 58) (t 59)),
 q 3 61 (oArith .geq (t 60) (i 2))])
 (.cond (t 61) (.seq (.ops [q 0 62 (oMv (t 7)),
 q 1 63 (oArith .sub (t 62) (i 1)),
 q 2 9 (oMv (t 63))])
 (.block 4 (.loop (.seq (.seq (.ops [q 0 64 (oMv (t 9)),
 q 1 65 (oArith .geq (t 64) (i 1))])
 (.cond (t 65) (.skip)
 (.exit 4)))
 (.seq (.block 5 (.seq (.seq (.drawn [q 0 68 (oMv (t 0)),
 q 1 69 (oMv (t 9)),
 q 2 70 (oIdxS 1 (t 68) (t 69)),
 r 3 71 (oLoad (t 70)),
 q 4 72 (oMv (t 0)),
 q 5 73 (oMv (t 9)),
 q 6 74 (oArith .sub (t 73) (i 1)),
 q 7 75 (oIdxS 1 (t 72) (t 74)),
 r 8 76 (oLoad (t 75)),
 c 9 77 357 [(t 71), (t 76)],
 q 10 78 (oNot (t 77))])
 (.cond (t 78) (.exit 4)
 (.skip)))
 (.drawn [q 0 79 (oMv (t 0)),
 q 1 80 (oMv (t 9)),
 q 2 81 (oMv (t 0)),
 q 3 82 (oMv (t 9)),
 q 4 83 (oArith .sub (t 82) (i 1)),
 q 5 84 (oMv (t 0)),
 q 6 85 (oMv (t 9)),
 q 7 86 (oArith .sub (t 85) (i 1)),
 q 8 87 (oIdxS 1 (t 84) (t 86)),
 r 9 88 (oLoad (t 87)),
 q 10 89 (oMv (t 0)),
 q 11 90 (oMv (t 9)),
 q 12 91 (oIdxS 1 (t 89) (t 90)),
 r 13 92 (oLoad (t 91)),
 q 14 93 (oIdxS 1 (t 79) (t 80)),
 h0 15 (oStore 1 (t 93) (t 88)),
 q 16 94 (oIdxS 1 (t 81) (t 83)),
 h0 17 (oStore 1 (t 94) (t 92))])))
 (.ops [q 0 66 (oMv (t 9)),
 q 1 67 (oArith .sub (t 66) (i 1)),
 q 2 9 (oMv (t 67))]))))))
 (.skip)))
 (.seq (.ops [q 0 95 (oMv (t 2)),
 q 1 96 (oMv (t 7)),
 q 2 97 (oArith .sub (t 95) (t 96)),
 q 3 98 (oArith .geq (t 97) (i 2))])
 (.cond (t 98) (.seq (.ops [q 0 99 (oMv (t 7)),
 q 1 100 (oArith .add (t 99) (i 1)),
 q 2 10 (oMv (t 100))])
 (.block 6 (.loop (.seq (.seq (.ops [q 0 101 (oMv (t 10)),
 q 1 102 (oMv (t 2)),
 q 2 103 (oArith .lss (t 101) (t 102))])
 (.cond (t 103) (.skip)
 (.exit 6)))
 (.seq (.block 7 (.seq (.seq (.drawn [q 0 106 (oMv (t 0)),
 q 1 107 (oMv (t 10)),
 q 2 108 (oIdxS 1 (t 106) (t 107)),
 r 3 109 (oLoad (t 108)),
 q 4 110 (oMv (t 0)),
 q 5 111 (oMv (t 10)),
 q 6 112 (oArith .sub (t 111) (i 1)),
 q 7 113 (oIdxS 1 (t 110) (t 112)),
 r 8 114 (oLoad (t 113)),
 c 9 115 357 [(t 109), (t 114)],
 q 10 116 (oNot (t 115))])
 (.cond (t 116) (.exit 6)
 (.skip)))
 (.drawn [q 0 117 (oMv (t 0)),
 q 1 118 (oMv (t 10)),
 q 2 119 (oMv (t 0)),
 q 3 120 (oMv (t 10)),
 q 4 121 (oArith .sub (t 120) (i 1)),
 q 5 122 (oMv (t 0)),
 q 6 123 (oMv (t 10)),
 q 7 124 (oArith .sub (t 123) (i 1)),
 q 8 125 (oIdxS 1 (t 122) (t 124)),
 r 9 126 (oLoad (t 125)),
 q 10 127 (oMv (t 0)),
 q 11 128 (oMv (t 10)),
 q 12 129 (oIdxS 1 (t 127) (t 128)),
 r 13 130 (oLoad (t 129)),
 q 14 131 (oIdxS 1 (t 117) (t 118)),
 h0 15 (oStore 1 (t 131) (t 126)),
 q 16 132 (oIdxS 1 (t 119) (t 121)),
 h0 17 (oStore 1 (t 132) (t 130))])))
 (.ops [q 0 104 (oMv (t 10)),
 q 1 105 (oArith .add (t 104) (i 1)),
 q 2 10 (oMv (t 105))]))))))
 (.skip)))))))))
 (.ops [q 0 15 (oMv (t 8)),
 q 1 16 (oArith .add (t 15) (i 1)),
 q 2 8 (oMv (t 16))]))))))
 (.seq (.ops [q 0 6 (oMv (b false))])
 (.ret)))))⟩
/-- cmp.Less[int] -/
noncomputable def a357 : AF := ⟨[.tmp 4],
 (.seq (.ops [q 0 4 (oMv (b false))])
 (.seq (.ops [q 0 5 (oMv (t 0)),
 c 1 6 317 [(t 5)],
 q 2 7 (oMv (t 6)),
 qg 3 8 7 true (oMv (t 1)),
 ⟨4, some 9, some (7, true), .callF 317 [(t 8)], []⟩,
 qg 5 10 7 true (oNot (t 9)),
 q 6 11 (oPick (t 7) (t 10) (b false)),
 q 7 12 (oMv (t 11)),
 qg 8 13 12 false (oMv (t 0)),
 qg 9 14 12 false (oMv (t 1)),
 qg 10 15 12 false (oArith .lss (t 13) (t 14)),
 q 11 16 (oPick (t 12) (b true) (t 15)),
 q 12 4 (oMv (t 16))])
 (.ret)))⟩
/-- slices.partitionEqualOrdered[int] -/
noncomputable def a358 : AF := ⟨[.tmp 8],
 (.seq (.ops [q 0 8 (oMv (i 0))])
 (.seq (.drawn [q 0 11 (oMv (t 0)),
 q 1 12 (oMv (t 1)),
 q 2 13 (oMv (t 0)),
 q 3 14 (oMv (t 3)),
 q 4 15 (oMv (t 0)),
 q 5 16 (oMv (t 3)),
 q 6 17 (oIdxS 1 (t 15) (t 16)),
 r 7 18 (oLoad (t 17)),
 q 8 19 (oMv (t 0)),
 q 9 20 (oMv (t 1)),
 q 10 21 (oIdxS 1 (t 19) (t 20)),
 r 11 22 (oLoad (t 21)),
 q 12 23 (oIdxS 1 (t 11) (t 12)),
 h0 13 (oStore 1 (t 23) (t 18)),
 q 14 24 (oIdxS 1 (t 13) (t 14)),
 h0 15 (oStore 1 (t 24) (t 22))])
 (.seq (.ops [q 0 25 (oMv (t 1)),
 q 1 26 (oArith .add (t 25) (i 1)),
 q 2 27 (oMv (t 2)),
 q 3 28 (oArith .sub (t 27) (i 1)),
 q 4 9 (oMv (t 26)),
 q 5 10 (oMv (t 28))])
 (.seq (.block 0 (.loop (.block 1 (.seq (.block 2 (.loop (.seq (.seq (.drawn [q 0 29 (oMv (t 9)),
 q 1 30 (oMv (t 10)),
 q 2 31 (oArith .leq (t 29) (t 30)),
 q 3 32 (oMv (t 31)),
 qg 4 33 32 true (oMv (t 0)),
 qg 5 34 32 true (oMv (t 1)),
 qg 6 35 32 true (oIdxS 1 (t 33) (t 34)),
 rg 7 36 32 true (oLoad (t 35)),
 qg 8 37 32 true (oMv (t 0)),
 qg 9 38 32 true (oMv (t 9)),
 qg 10 39 32 true (oIdxS 1 (t 37) (t 38)),
 rg 11 40 32 true (oLoad (t 39)),
 ⟨12, some 41, some (32, true), .callF 357 [(t 36), (t 40)], []⟩,
 qg 13 42 32 true (oNot (t 41)),
 q 14 43 (oPick (t 32) (t 42) (b false))])
 (.cond (t 43) (.skip)
 (.exit 2)))
 (.block 3 (.ops [q 0 44 (oMv (t 9)),
 q 1 45 (oArith .add (t 44) (i 1)),
 q 2 9 (oMv (t 45))])))))
 (.seq (.block 4 (.loop (.seq (.seq (.drawn [q 0 46 (oMv (t 9)),
 q 1 47 (oMv (t 10)),
 q 2 48 (oArith .leq (t 46) (t 47)),
 q 3 49 (oMv (t 48)),
 qg 4 50 49 true (oMv (t 0)),
 qg 5 51 49 true (oMv (t 1)),
 qg 6 52 49 true (oIdxS 1 (t 50) (t 51)),
 rg 7 53 49 true (oLoad (t 52)),
 qg 8 54 49 true (oMv (t 0)),
 qg 9 55 49 true (oMv (t 10)),
 qg 10 56 49 true (oIdxS 1 (t 54) (t 55)),
 rg 11 57 49 true (oLoad (t 56)),
 ⟨12, some 58, some (49, true), .callF 357 [(t 53), (t 57)], []⟩,
 q 13 59 (oPick (t 49) (t 58) (b false))])
 (.cond (t 59) (.skip)
 (.exit 4)))
 (.block 5 (.ops [q 0 60 (oMv (t 10)),
 q 1 61 (oArith .sub (t 60) (i 1)),
 q 2 10 (oMv (t 61))])))))
 (.seq (.seq (.ops [q 0 62 (oMv (t 9)),
 q 1 63 (oMv (t 10)),
 q 2 64 (oArith .gtr (t 62) (t 63))])
 (.cond (t 64) (.exit 0)
 (.skip)))
 (.seq (.drawn [q 0 65 (oMv (t 0)),
 q 1 66 (oMv (t 9)),
 q 2 67 (oMv (t 0)),
 q 3 68 (oMv (t 10)),
 q 4 69 (oMv (t 0)),
 q 5 70 (oMv (t 10)),
 q 6 71 (oIdxS 1 (t 69) (t 70)),
 r 7 72 (oLoad (t 71)),
 q 8 73 (oMv (t 0)),
 q 9 74 (oMv (t 9)),
 q 10 75 (oIdxS 1 (t 73) (t 74)),
 r 11 76 (oLoad (t 75)),
 q 12 77 (oIdxS 1 (t 65) (t 66)),
 h0 13 (oStore 1 (t 77) (t 72)),
 q 14 78 (oIdxS 1 (t 67) (t 68)),
 h0 15 (oStore 1 (t 78) (t 76))])
 (.seq (.ops [q 0 79 (oMv (t 9)),
 q 1 80 (oArith .add (t 79) (i 1)),
 q 2 9 (oMv (t 80))])
 (.ops [q 0 81 (oMv (t 10)),
 q 1 82 (oArith .sub (t 81) (i 1)),
 q 2 10 (oMv (t 82))])))))))))
 (.seq (.ops [q 0 83 (oMv (t 9)),
 q 1 8 (oMv (t 83))])
 (.ret))))))⟩
/-- slices.partitionOrdered[int] -/
noncomputable def a359 : AF := ⟨[.tmp 8, .tmp 9],
 (.seq (.ops [q 0 8 (oMv (i 0)),
 q 1 9 (oMv (b false))])
 (.seq (.drawn [q 0 12 (oMv (t 0)),
 q 1 13 (oMv (t 1)),
 q 2 14 (oMv (t 0)),
 q 3 15 (oMv (t 3)),
 q 4 16 (oMv (t 0)),
 q 5 17 (oMv (t 3)),
 q 6 18 (oIdxS 1 (t 16) (t 17)),
 r 7 19 (oLoad (t 18)),
 q 8 20 (oMv (t 0)),
 q 9 21 (oMv (t 1)),
 q 10 22 (oIdxS 1 (t 20) (t 21)),
 r 11 23 (oLoad (t 22)),
 q 12 24 (oIdxS 1 (t 12) (t 13)),
 h0 13 (oStore 1 (t 24) (t 19)),
 q 14 25 (oIdxS 1 (t 14) (t 15)),
 h0 15 (oStore 1 (t 25) (t 23))])
 (.seq (.ops [q 0 26 (oMv (t 1)),
 q 1 27 (oArith .add (t 26) (i 1)),
 q 2 28 (oMv (t 2)),
 q 3 29 (oArith .sub (t 28) (i 1)),
 q 4 10 (oMv (t 27)),
 q 5 11 (oMv (t 29))])
 (.seq (.block 0 (.loop (.seq (.seq (.drawn [q 0 30 (oMv (t 10)),
 q 1 31 (oMv (t 11)),
 q 2 32 (oArith .leq (t 30) (t 31)),
 q 3 33 (oMv (t 32)),
 qg 4 34 33 true (oMv (t 0)),
 qg 5 35 33 true (oMv (t 10)),
 qg 6 36 33 true (oIdxS 1 (t 34) (t 35)),
 rg 7 37 33 true (oLoad (t 36)),
 qg 8 38 33 true (oMv (t 0)),
 qg 9 39 33 true (oMv (t 1)),
 qg 10 40 33 true (oIdxS 1 (t 38) (t 39)),
 rg 11 41 33 true (oLoad (t 40)),
 ⟨12, some 42, some (33, true), .callF 357 [(t 37), (t 41)], []⟩,
 q 13 43 (oPick (t 33) (t 42) (b false))])
 (.cond (t 43) (.skip)
 (.exit 0)))
 (.block 1 (.ops [q 0 44 (oMv (t 10)),
 q 1 45 (oArith .add (t 44) (i 1)),
 q 2 10 (oMv (t 45))])))))
 (.seq (.block 2 (.loop (.seq (.seq (.drawn [q 0 46 (oMv (t 10)),
 q 1 47 (oMv (t 11)),
 q 2 48 (oArith .leq (t 46) (t 47)),
 q 3 49 (oMv (t 48)),
 qg 4 50 49 true (oMv (t 0)),
 qg 5 51 49 true (oMv (t 11)),
 qg 6 52 49 true (oIdxS 1 (t 50) (t 51)),
 rg 7 53 49 true (oLoad (t 52)),
 qg 8 54 49 true (oMv (t 0)),
 qg 9 55 49 true (oMv (t 1)),
 qg 10 56 49 true (oIdxS 1 (t 54) (t 55)),
 rg 11 57 49 true (oLoad (t 56)),
 ⟨12, some 58, some (49, true), .callF 357 [(t 53), (t 57)], []⟩,
 qg 13 59 49 true (oNot (t 58)),
 q 14 60 (oPick (t 49) (t 59) (b false))])
 (.cond (t 60) (.skip)
 (.exit 2)))
 (.block 3 (.ops [q 0 61 (oMv (t 11)),
 q 1 62 (oArith .sub (t 61) (i 1)),
 q 2 11 (oMv (t 62))])))))
 (.seq (.seq (.ops [q 0 63 (oMv (t 10)),
 q 1 64 (oMv (t 11)),
 q 2 65 (oArith .gtr (t 63) (t 64))])
 (.cond (t 65) (.seq (.drawn [q 0 66 (oMv (t 0)),
 q 1 67 (oMv (t 11)),
 q 2 68 (oMv (t 0)),
 q 3 69 (oMv (t 1)),
 q 4 70 (oMv (t 0)),
 q 5 71 (oMv (t 1)),
 q 6 72 (oIdxS 1 (t 70) (t 71)),
 r 7 73 (oLoad (t 72)),
 q 8 74 (oMv (t 0)),
 q 9 75 (oMv (t 11)),
 q 10 76 (oIdxS 1 (t 74) (t 75)),
 r 11 77 (oLoad (t 76)),
 q 12 78 (oIdxS 1 (t 66) (t 67)),
 h0 13 (oStore 1 (t 78) (t 73)),
 q 14 79 (oIdxS 1 (t 68) (t 69)),
 h0 15 (oStore 1 (t 79) (t 77))])
 (.seq (.ops [q 0 80 (oMv (t 11)),
 q 1 8 (oMv (t 80)),
 q 2 9 (oMv (b true))])
 (.ret)))
 (.skip)))
 (.seq (.drawn [q 0 81 (oMv (t 0)),
 q 1 82 (oMv (t 10)),
 q 2 83 (oMv (t 0)),
 q 3 84 (oMv (t 11)),
 q 4 85 (oMv (t 0)),
 q 5 86 (oMv (t 11)),
 q 6 87 (oIdxS 1 (t 85) (t 86)),
 r 7 88 (oLoad (t 87)),
 q 8 89 (oMv (t 0)),
 q 9 90 (oMv (t 10)),
 q 10 91 (oIdxS 1 (t 89) (t 90)),
 r 11 92 (oLoad (t 91)),
 q 12 93 (oIdxS 1 (t 81) (t 82)),
 h0 13 (oStore 1 (t 93) (t 88)),
 q 14 94 (oIdxS 1 (t 83) (t 84)),
 h0 15 (oStore 1 (t 94) (t 92))])
 (.seq (.ops [q 0 95 (oMv (t 10)),
 q 1 96 (oArith .add (t 95) (i 1)),
 q 2 10 (oMv (t 96))])
 (.seq (.ops [q 0 97 (oMv (t 11)),
 q 1 98 (oArith .sub (t 97) (i 1)),
 q 2 11 (oMv (t 98))])
 (.seq (.block 4 (.loop (.block 5 (.seq (.block 6 (.loop (.seq (.seq (.drawn [q 0 99 (oMv (t 10)),
 q 1 100 (oMv (t 11)),
 q 2 101 (oArith .leq (t 99) (t 100)),
 q 3 102 (oMv (t 101)),
 qg 4 103 102 true (oMv (t 0)),
 qg 5 104 102 true (oMv (t 10)),
 qg 6 105 102 true (oIdxS 1 (t 103) (t 104)),
 rg 7 106 102 true (oLoad (t 105)),
 qg 8 107 102 true (oMv (t 0)),
 qg 9 108 102 true (oMv (t 1)),
 qg 10 109 102 true (oIdxS 1 (t 107) (t 108)),
 rg 11 110 102 true (oLoad (t 109)),
 ⟨12, some 111, some (102, true), .callF 357 [(t 106), (t 110)], []⟩,
 q 13 112 (oPick (t 102) (t 111) (b false))])
 (.cond (t 112) (.skip)
 (.exit 6)))
 (.block 7 (.ops [q 0 113 (oMv (t 10)),
 q 1 114 (oArith .add (t 113) (i 1)),
 q 2 10 (oMv (t 114))])))))
 (.seq (.block 8 (.loop (.seq (.seq (.drawn [q 0 115 (oMv (t 10)),
 q 1 116 (oMv (t 11)),
 q 2 117 (oArith .leq (t 115) (t 116)),
 q 3 118 (oMv (t 117)),
 qg 4 119 118 true (oMv (t 0)),
 qg 5 120 118 true (oMv (t 11)),
 qg 6 121 118 true (oIdxS 1 (t 119) (t 120)),
 rg 7 122 118 true (oLoad (t 121)),
 qg 8 123 118 true (oMv (t 0)),
 qg 9 124 118 true (oMv (t 1)),
 qg 10 125 118 true (oIdxS 1 (t 123) (t 124)),
 rg 11 126 118 true (oLoad (t 125)),
 ⟨12, some 127, some (118, true), .callF 357 [(t 122), (t 126)], []⟩,
 qg 13 128 118 true (oNot (t 127)),
 q 14 129 (oPick (t 118) (t 128) (b false))])
 (.cond (t 129) (.skip)
 (.exit 8)))
 (.block 9 (.ops [q 0 130 (oMv (t 11)),
 q 1 131 (oArith .sub (t 130) (i 1)),
 q 2 11 (oMv (t 131))])))))
 (.seq (.seq (.ops [q 0 132 (oMv (t 10)),
 q 1 133 (oMv (t 11)),
 q 2 134 (oArith .gtr (t 132) (t 133))])
 (.cond (t 134) (.exit 4)
 (.skip)))
 (.seq (.drawn [q 0 135 (oMv (t 0)),
 q 1 136 (oMv (t 10)),
 q 2 137 (oMv (t 0)),
 q 3 138 (oMv (t 11)),
 q 4 139 (oMv (t 0)),
 q 5 140 (oMv (t 11)),
 q 6 141 (oIdxS 1 (t 139) (t 140)),
 r 7 142 (oLoad (t 141)),
 q 8 143 (oMv (t 0)),
 q 9 144 (oMv (t 10)),
 q 10 145 (oIdxS 1 (t 143) (t 144)),
 r 11 146 (oLoad (t 145)),
 q 12 147 (oIdxS 1 (t 135) (t 136)),
 h0 13 (oStore 1 (t 147) (t 142)),
 q 14 148 (oIdxS 1 (t 137) (t 138)),
 h0 15 (oStore 1 (t 148) (t 146))])
 (.seq (.ops [q 0 149 (oMv (t 10)),
 q 1 150 (oArith .add (t 149) (i 1)),
 q 2 10 (oMv (t 150))])
 (.ops [q 0 151 (oMv (t 11)),
 q 1 152 (oArith .sub (t 151) (i 1)),
 q 2 11 (oMv (t 152))])))))))))
 (.seq (.drawn [q 0 153 (oMv (t 0)),
 q 1 154 (oMv (t 11)),
 q 2 155 (oMv (t 0)),
 q 3 156 (oMv (t 1)),
 q 4 157 (oMv (t 0)),
 q 5 158 (oMv (t 1)),
 q 6 159 (oIdxS 1 (t 157) (t 158)),
 r 7 160 (oLoad (t 159)),
 q 8 161 (oMv (t 0)),
 q 9 162 (oMv (t 11)),
 q 10 163 (oIdxS 1 (t 161) (t 162)),
 r 11 164 (oLoad (t 163)),
 q 12 165 (oIdxS 1 (t 153) (t 154)),
 h0 13 (oStore 1 (t 165) (t 160)),
 q 14 166 (oIdxS 1 (t 155) (t 156)),
 h0 15 (oStore 1 (t 166) (t 164))])
 (.seq (.ops [q 0 167 (oMv (t 11)),
 q 1 8 (oMv (t 167)),
 q 2 9 (oMv (b false))])
 (.ret)))))))))))))⟩
/-- slices.nextPowerOfTwo -/
noncomputable def a361 : AF := ⟨[.tmp 2],
 (.seq (.ops [q 0 2 (oMv (.val (.int .u64 0)))])
 (.seq (.ops [q 0 3 (oMv (t 0)),
 q 1 4 (oConv .u64 (t 3)),
 c 2 5 307 [(t 4)],
 q 3 6 (oShift .shl (.val (.int .u64 1)) (t 5)),
 q 4 2 (oMv (t 6))])
 (.ret)))⟩
/-- (*slices.xorshift).Next -/
noncomputable def a362 : AF := ⟨[.tmp 2],
 (.seq (.ops [q 0 2 (oMv (.val (.int .u64 0)))])
 (.seq (.drawn [q 0 3 (oMv (t 0)),
 q 1 4 (oNilCheck (t 3)),
 r 2 5 (oLoad (t 4)),
 q 3 6 (oMv (t 0)),
 q 4 7 (oNilCheck (t 6)),
 r 5 8 (oLoad (t 7)),
 q 6 9 (oShift .shl (t 8) (.val (.int .u64 13))),
 q 7 10 (oArith .xor (t 5) (t 9)),
 q 8 11 (oNilCheck (t 3)),
 h0 9 (oStore 1 (t 11) (t 10))])
 (.seq (.drawn [q 0 12 (oMv (t 0)),
 q 1 13 (oNilCheck (t 12)),
 r 2 14 (oLoad (t 13)),
 q 3 15 (oMv (t 0)),
 q 4 16 (oNilCheck (t 15)),
 r 5 17 (oLoad (t 16)),
 q 6 18 (oShift .shr (t 17) (.val (.int .u64 7))),
 q 7 19 (oArith .xor (t 14) (t 18)),
 q 8 20 (oNilCheck (t 12)),
 h0 9 (oStore 1 (t 20) (t 19))])
 (.seq (.drawn [q 0 21 (oMv (t 0)),
 q 1 22 (oNilCheck (t 21)),
 r 2 23 (oLoad (t 22)),
 q 3 24 (oMv (t 0)),
 q 4 25 (oNilCheck (t 24)),
 r 5 26 (oLoad (t 25)),
 q 6 27 (oShift .shl (t 26) (.val (.int .u64 17))),
 q 7 28 (oArith .xor (t 23) (t 27)),
 q 8 29 (oNilCheck (t 21)),
 h0 9 (oStore 1 (t 29) (t 28))])
 (.seq (.ops [q 0 30 (oMv (t 0)),
 q 1 31 (oNilCheck (t 30)),
 r 2 32 (oLoad (t 31)),
 q 3 2 (oMv (t 32))])
 (.ret))))))⟩
/-- slices.siftDownOrdered[int] -/
noncomputable def a374 : AF := ⟨[],
 (.seq (.ops [q 0 10 (oMv (t 1)),
 q 1 8 (oMv (t 10))])
 (.block 0 (.loop (.block 1 (.seq (.ops [q 0 11 (oMv (t 8)),
 q 1 12 (oArith .mul (i 2) (t 11)),
 q 2 13 (oArith .add (t 12) (i 1)),
 q 3 9 (oMv (t 13))])
 (.seq (.seq (.ops [q 0 14 (oMv (t 9)),
 q 1 15 (oMv (t 2)),
 q 2 16 (oArith .geq (t 14) (t 15))])
 (.cond (t 16) (.exit 0)
 (.skip)))
 (.seq (.seq (.drawn [q 0 17 (oMv (t 9)),
 q 1 18 (oArith .add (t 17) (i 1)),
 q 2 19 (oMv (t 2)),
 q 3 20 (oArith .lss (t 18) (t 19)),
 q 4 21 (oMv (t 20)),
 qg 5 22 21 true (oMv (t 0)),
 qg 6 23 21 true (oMv (t 3)),
 qg 7 24 21 true (oMv (t 9)),
 qg 8 25 21 true (oArith .add (t 23) (t 24)),
 qg 9 26 21 true (oIdxS 1 (t 22) (t 25)),
 rg 10 27 21 true (oLoad (t 26)),
 qg 11 28 21 true (oMv (t 0)),
 qg 12 29 21 true (oMv (t 3)),
 qg 13 30 21 true (oMv (t 9)),
 qg 14 31 21 true (oArith .add (t 29) (t 30)),
 qg 15 32 21 true (oArith .add (t 31) (i 1)),
 qg 16 33 21 true (oIdxS 1 (t 28) (t 32)),
 rg 17 34 21 true (oLoad (t 33)),
 ⟨18, some 35, some (21, true), .callF 357 [(t 27), (t 34)], []⟩,
 q 19 36 (oPick (t 21) (t 35) (b false))])
 (.cond (t 36) (.ops [q 0 37 (oMv (t 9)),
 q 1 38 (oArith .add (t 37) (i 1)),
 q 2 9 (oMv (t 38))])
 (.skip)))
 (.seq (.seq (.drawn [q 0 39 (oMv (t 0)),
 q 1 40 (oMv (t 3)),
 q 2 41 (oMv (t 8)),
 q 3 42 (oArith .add (t 40) (t 41)),
 q 4 43 (oIdxS 1 (t 39) (t 42)),
 r 5 44 (oLoad (t 43)),
 q 6 45 (oMv (t 0)),
 q 7 46 (oMv (t 3)),
 q 8 47 (oMv (t 9)),
 q 9 48 (oArith .add (t 46) (t 47)),
 q 10 49 (oIdxS 1 (t 45) (t 48)),
 r 11 50 (oLoad (t 49)),
 c 12 51 357 [(t 44), (t 50)],
 q 13 52 (oNot (t 51))])
 (.cond (t 52) (.ret)
 (.skip)))
 (.seq (.drawn [q 0 53 (oMv (t 0)),
 q 1 54 (oMv (t 3)),
 q 2 55 (oMv (t 8)),
 q 3 56 (oArith .add (t 54) (t 55)),
 q 4 57 (oMv (t 0)),
 q 5 58 (oMv (t 3)),
 q 6 59 (oMv (t 9)),
 q 7 60 (oArith .add (t 58) (t 59)),
 q 8 61 (oMv (t 0)),
 q 9 62 (oMv (t 3)),
 q 10 63 (oMv (t 9)),
 q 11 64 (oArith .add (t 62) (t 63)),
 q 12 65 (oIdxS 1 (t 61) (t 64)),
 r 13 66 (oLoad (t 65)),
 q 14 67 (oMv (t 0)),
 q 15 68 (oMv (t 3)),
 q 16 69 (oMv (t 8)),
 q 17 70 (oArith .add (t 68) (t 69)),
 q 18 71 (oIdxS 1 (t 67) (t 70)),
 r 19 72 (oLoad (t 71)),
 q 20 73 (oIdxS 1 (t 53) (t 56)),
 h0 21 (oStore 1 (t 73) (t 66)),
 q 22 74 (oIdxS 1 (t 57) (t 60)),
 h0 23 (oStore 1 (t 74) (t 72))])
 (.ops [q 0 75 (oMv (t 9)),
 q 1 8 (oMv (t 75))]))))))))))⟩
/-- slices.medianAdjacentOrdered[int] -/
noncomputable def a375 : AF := ⟨[.tmp 6],
 (.seq (.ops [q 0 6 (oMv (i 0))])
 (.seq (.ops [q 0 7 (oMv (t 0)),
 q 1 8 (oMv (t 1)),
 q 2 9 (oArith .sub (t 8) (i 1)),
 q 3 10 (oMv (t 1)),
 q 4 11 (oMv (t 1)),
 q 5 12 (oArith .add (t 11) (i 1)),
 q 6 13 (oMv (t 2)),
 c 7 14 376 [(t 7), (t 9), (t 10), (t 12), (t 13)],
 q 8 6 (oMv (t 14))])
 (.ret)))⟩
/-- slices.medianOrdered[int] -/
noncomputable def a376 : AF := ⟨[.tmp 10],
 (.seq (.ops [q 0 10 (oMv (i 0))])
 (.seq (.ops [q 0 12 (oMv (t 0)),
 q 1 13 (oMv (t 1)),
 q 2 14 (oMv (t 2)),
 q 3 15 (oMv (t 4)),
 c 4 16 381 [(t 12), (t 13), (t 14), (t 15)],
 q 5 11 (oMv (t 16)),
 q 6 17 (oExtract 0 (t 11)),
 q 7 18 (oExtract 1 (t 11)),
 q 8 1 (oMv (t 17)),
 q 9 2 (oMv (t 18))])
 (.seq (.ops [q 0 20 (oMv (t 0)),
 q 1 21 (oMv (t 2)),
 q 2 22 (oMv (t 3)),
 q 3 23 (oMv (t 4)),
 c 4 24 381 [(t 20), (t 21), (t 22), (t 23)],
 q 5 19 (oMv (t 24)),
 q 6 25 (oExtract 0 (t 19)),
 q 7 26 (oExtract 1 (t 19)),
 q 8 2 (oMv (t 25)),
 q 9 3 (oMv (t 26))])
 (.seq (.ops [q 0 28 (oMv (t 0)),
 q 1 29 (oMv (t 1)),
 q 2 30 (oMv (t 2)),
 q 3 31 (oMv (t 4)),
 c 4 32 381 [(t 28), (t 29), (t 30), (t 31)],
 q 5 27 (oMv (t 32)),
 q 6 33 (oExtract 0 (t 27)),
 q 7 34 (oExtract 1 (t 27)),
 q 8 1 (oMv (t 33)),
 q 9 2 (oMv (t 34))])
 (.seq (.ops [q 0 35 (oMv (t 2)),
 q 1 10 (oMv (t 35))])
 (.ret))))))⟩
/-- slices.order2Ordered[int] -/
noncomputable def a381 : AF := ⟨[.tmp 8, .tmp 9],
 (.seq (.ops [q 0 8 (oMv (i 0)),
 q 1 9 (oMv (i 0))])
 (.seq (.seq (.drawn [q 0 10 (oMv (t 0)),
 q 1 11 (oMv (t 2)),
 q 2 12 (oIdxS 1 (t 10) (t 11)),
 r 3 13 (oLoad (t 12)),
 q 4 14 (oMv (t 0)),
 q 5 15 (oMv (t 1)),
 q 6 16 (oIdxS 1 (t 14) (t 15)),
 r 7 17 (oLoad (t 16)),
 c 8 18 357 [(t 13), (t 17)]])
 (.cond (t 18) (.seq (.ops [q 0 19 (oMv (t 3)),
 q 1 20 (oNilCheck (t 19)),
 r 2 21 (oLoad (t 20)),
 q 3 22 (oArith .add (t 21) (i 1)),
 q 4 23 (oNilCheck (t 19)),
 h0 5 (oStore 1 (t 23) (t 22))])
 (.seq (.ops [q 0 24 (oMv (t 2)),
 q 1 25 (oMv (t 1)),
 q 2 8 (oMv (t 24)),
 q 3 9 (oMv (t 25))])
 (.ret)))
 (.skip)))
 (.seq (.ops [q 0 26 (oMv (t 1)),
 q 1 27 (oMv (t 2)),
 q 2 8 (oMv (t 26)),
 q 3 9 (oMv (t 27))])
 (.ret))))⟩
/-- (tangram/colour.queue).Less -/
noncomputable def a399 : AF := ⟨[.tmp 6],
 (.seq (.ops [q 0 6 (oMv (b false))])
 (.seq (.drawn [q 0 7 (oMv (t 0)),
 q 1 8 (oMv (t 1)),
 q 2 9 (oIdxS 2 (t 7) (t 8)),
 q 3 10 (oFieldAddr 0 (t 9)),
 r 4 11 (oLoad (t 10)),
 q 5 12 (oMv (t 0)),
 q 6 13 (oMv (t 2)),
 q 7 14 (oIdxS 2 (t 12) (t 13)),
 q 8 15 (oFieldAddr 0 (t 14)),
 r 9 16 (oLoad (t 15)),
 q 10 17 (oArith .lss (t 11) (t 16)),
 q 11 18 (oMv (t 17)),
 qg 12 19 18 false (oMv (t 0)),
 qg 13 20 18 false (oMv (t 1)),
 qg 14 21 18 false (oIdxS 2 (t 19) (t 20)),
 qg 15 22 18 false (oFieldAddr 0 (t 21)),
 rg 16 23 18 false (oLoad (t 22)),
 qg 17 24 18 false (oMv (t 0)),
 qg 18 25 18 false (oMv (t 2)),
 qg 19 26 18 false (oIdxS 2 (t 24) (t 25)),
 qg 20 27 18 false (oFieldAddr 0 (t 26)),
 rg 21 28 18 false (oLoad (t 27)),
 qg 22 29 18 false (oArith .eql (t 23) (t 28)),
 qg 23 30 18 false (oMv (t 29)),
 qg 24 31 30 true (oMv (t 0)),
 qg 25 32 30 true (oMv (t 1)),
 qg 26 33 30 true (oIdxS 2 (t 31) (t 32)),
 qg 27 34 30 true (oFieldAddr 1 (t 33)),
 rg 28 35 30 true (oLoad (t 34)),
 qg 29 36 30 true (oMv (t 0)),
 qg 30 37 30 true (oMv (t 2)),
 qg 31 38 30 true (oIdxS 2 (t 36) (t 37)),
 qg 32 39 30 true (oFieldAddr 1 (t 38)),
 rg 33 40 30 true (oLoad (t 39)),
 qg 34 41 30 true (oArith .lss (t 35) (t 40)),
 qg 35 42 18 false (oPick (t 30) (t 41) (b false)),
 q 36 43 (oPick (t 18) (b true) (t 42)),
 q 37 6 (oMv (t 43))])
 (.ret)))⟩
/-- (tangram/colour.queue).Swap -/
noncomputable def a400 : AF := ⟨[],
 (.drawn [q 0 6 (oMv (t 0)),
 q 1 7 (oMv (t 1)),
 q 2 8 (oMv (t 0)),
 q 3 9 (oMv (t 2)),
 q 4 10 (oMv (t 0)),
 q 5 11 (oMv (t 2)),
 q 6 12 (oIdxS 2 (t 10) (t 11)),
 r 7 13 (oLoadN 2 (t 12)),
 q 8 14 (oMv (t 0)),
 q 9 15 (oMv (t 1)),
 q 10 16 (oIdxS 2 (t 14) (t 15)),
 r 11 17 (oLoadN 2 (t 16)),
 q 12 18 (oIdxS 2 (t 6) (t 7)),
 h0 13 (oStore 2 (t 18) (t 13)),
 q 14 19 (oIdxS 2 (t 8) (t 9)),
 h0 15 (oStore 2 (t 19) (t 17))])⟩
/-- (*tangram/colour.queue).Pop -/
noncomputable def a401 : AF := ⟨[.tmp 2],
 (.seq (.ops [q 0 2 (oMv (.val .nilIface))])
 (.seq (.ops [q 0 5 (oMv (t 0)),
 q 1 6 (oNilCheck (t 5)),
 r 2 7 (oLoad (t 6)),
 q 3 3 (oMv (t 7))])
 (.seq (.ops [q 0 8 (oMv (t 3)),
 q 1 9 (oMv (t 3)),
 r 2 10 (oLen .slice (t 9)),
 q 3 11 (oArith .sub (t 10) (i 1)),
 q 4 12 (oIdxS 2 (t 8) (t 11)),
 r 5 13 (oLoadN 2 (t 12)),
 q 6 4 (oAlloc [(.int .i64 0), (.int .i64 0)]),
 h0 7 (oStore 2 (t 4) (t 13))])
 (.seq (.ops [q 0 14 (oMv (t 0)),
 q 1 15 (oMv (t 3)),
 q 2 16 (oMv (t 3)),
 r 3 17 (oLen .slice (t 16)),
 q 4 18 (oArith .sub (t 17) (i 1)),
 q 5 19 (oSlice 2 (t 15) none (some (t 18)) none),
 q 6 20 (oNilCheck (t 14)),
 h0 7 (oStore 1 (t 20) (t 19))])
 (.seq (.ops [r 0 21 (oLoadN 2 (t 4)),
 q 1 22 (oIface 112 (t 21)),
 q 2 2 (oMv (t 22))])
 (.ret))))))⟩
/-- (*tangram/colour.queue).Push -/
noncomputable def a402 : AF := ⟨[],
 (.drawn [q 0 4 (oMv (t 0)),
 q 1 5 (oMv (t 0)),
 q 2 6 (oNilCheck (t 5)),
 r 3 7 (oLoad (t 6)),
 q 4 8 (oMv (t 1)),
 q 5 9 (oAssert 112 false (.agg #[(.int .i64 0), (.int .i64 0)]) (t 8)),
 q 6 10 (oBuildSlice 2 1 [(.int .i64 0), (.int .i64 0)] [(0, 2)] [(t 9)]),
 h 7 11 (oAppend 2 16 (t 7) (t 10)),
 q 8 12 (oNilCheck (t 4)),
 h0 9 (oStore 1 (t 12) (t 11))])⟩
end Go.Proofs.YtjfppkhaiooloaaGreatDoor.Cp

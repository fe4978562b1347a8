/- The code of the functions, for the interpreter. -/
import Derived.Test.YtjfppkhaiooloaaGreatDoorAiB
namespace Go.Proofs.YtjfppkhaiooloaaGreatDoor.Gs
open Go.AI
set_option maxRecDepth 100000
/-- tangram/tangramlaw25.GridSizes -/
noncomputable def a22 : AF := ⟨[.tmp 2],
 (.seq
   (.ops [⟨0, some 2, none, .op .quiet (oMv (.val (.bool false))), []⟩])
   (.seq
    (.seq
     (.ops [⟨0, some 7, none, .callF 82 [], []⟩,
       ⟨1, some 8, none, .op .quiet (oNot (.tmp 7)), []⟩])
     (.cond (.tmp 8)
      (.seq
       (.ops [⟨0, some 2, none, .op .quiet (oMv (.val (.bool false))), []⟩])
       (.ret))
      (.skip)))
    (.seq
     (.ops [⟨0, some 10, none, .op .quiet (oMv (.tmp 0)), []⟩,
       ⟨1, some 11, none, .callF 83 [(.tmp 10)], []⟩,
       ⟨2, some 9, none, .op .quiet (oMv (.tmp 11)), []⟩,
       ⟨3, some 12, none, .op .quiet (oExtract 0 (.tmp 9)), []⟩,
       ⟨4, some 13, none, .op .quiet (oExtract 1 (.tmp 9)), []⟩,
       ⟨5, some 3, none, .op .quiet (oMv (.tmp 12)), []⟩,
       ⟨6, some 4, none, .op .quiet (oMv (.tmp 13)), []⟩])
     (.seq
      (.ops [⟨0, some 15, none, .op .quiet (oMv (.tmp 0)), []⟩,
        ⟨1, some 16, none, .callF 84 [(.tmp 15)], []⟩,
        ⟨2, some 14, none, .op .quiet (oMv (.tmp 16)), []⟩,
        ⟨3, some 17, none, .op .quiet (oExtract 0 (.tmp 14)), []⟩,
        ⟨4, some 18, none, .op .quiet (oExtract 1 (.tmp 14)), []⟩,
        ⟨5, some 5, none, .op .quiet (oMv (.tmp 17)), []⟩,
        ⟨6, some 6, none, .op .quiet (oMv (.tmp 18)), []⟩])
      (.seq
       (.ops [⟨0, some 19, none, .op .quiet (oMv (.tmp 3)), []⟩,
         ⟨1, some 20, none, .op .quiet (oMv (.tmp 5)), []⟩,
         ⟨2, some 21, none, .op .quiet (oArith .eql (.tmp 19) (.tmp 20)), []⟩,
         ⟨3, some 22, none, .op .quiet (oMv (.tmp 21)), []⟩,
         ⟨4, some 23, some (22, true), .op .quiet (oMv (.tmp 4)), []⟩,
         ⟨5, some 24, some (22, true), .op .quiet (oMv (.tmp 6)), []⟩,
         ⟨6, some 25, some (22, true), .op .quiet (oArith .eql (.tmp 23) (.tmp 24)), []⟩,
         ⟨7, some 26, none, .op .quiet (oPick (.tmp 22) (.tmp 25) (.val (.bool false))), []⟩,
         ⟨8, some 2, none, .op .quiet (oMv (.tmp 26)), []⟩])
       (.ret))))))⟩
/-- tangram/embed.Embed -/
noncomputable def a47 : AF := ⟨[.tmp 2, .tmp 3, .tmp 4],
 (.seq
   (.ops [⟨0, some 1, none, .op .quiet (oBox (.tmp 0)), []⟩,
     ⟨1, some 2, none, .op .quiet (oMv (.val (.slice none 0 0))), []⟩,
     ⟨2, some 3, none, .op .quiet (oMv (.val (.bool false))), []⟩,
     ⟨3, some 4, none, .op .quiet (oMv (.val (.int .i64 0))), []⟩])
   (.seq
    (.ops [⟨0, some 11, none, .op .reads (oLoadN 2 (.tmp 1)), []⟩,
      ⟨1, some 12, none, .callF 52 [(.tmp 11)], []⟩,
      ⟨2, some 10, none, .op .quiet (oMv (.tmp 12)), []⟩,
      ⟨3, some 13, none, .op .quiet (oExtract 0 (.tmp 10)), []⟩,
      ⟨4, some 14, none, .op .quiet (oExtract 1 (.tmp 10)), []⟩,
      ⟨5, some 15, none, .op .quiet (oExtract 2 (.tmp 10)), []⟩,
      ⟨6, some 5, none, .op .quiet (oMv (.tmp 13)), []⟩,
      ⟨7, some 6, none, .op .quiet (oMv (.tmp 14)), []⟩,
      ⟨8, some 7, none, .op .quiet (oMv (.tmp 15)), []⟩])
    (.seq
     (.seq
      (.ops [⟨0, some 16, none, .op .quiet (oMv (.tmp 7)), []⟩,
        ⟨1, some 17, none, .op .quiet (oArith .neq (.tmp 16) (.val (.int .i64 0))), []⟩,
        ⟨2, some 18, none, .op .quiet (oMv (.tmp 17)), []⟩,
        ⟨3, some 19, some (18, false), .op .quiet (oMv (.tmp 6)), []⟩,
        ⟨4, some 20, some (18, false), .op .quiet (oNot (.tmp 19)), []⟩,
        ⟨5, some 21, none, .op .quiet (oPick (.tmp 18) (.val (.bool true)) (.tmp 20)), []⟩])
      (.cond (.tmp 21)
       (.seq
        (.ops [⟨0, some 22, none, .op .quiet (oMv (.tmp 7)), []⟩,
          ⟨1, some 2, none, .op .quiet (oMv (.val (.slice none 0 0))), []⟩,
          ⟨2, some 3, none, .op .quiet (oMv (.val (.bool false))), []⟩,
          ⟨3, some 4, none, .op .quiet (oMv (.tmp 22)), []⟩])
        (.ret))
       (.skip)))
     (.seq
      (.ops [⟨0, some 24, none, .op .reads (oLoadN 2 (.tmp 1)), []⟩,
        ⟨1, some 25, none, .callF 106 [(.tmp 24)], []⟩,
        ⟨2, some 23, none, .op .quiet (oMv (.tmp 25)), []⟩,
        ⟨3, some 26, none, .op .quiet (oExtract 0 (.tmp 23)), []⟩,
        ⟨4, some 27, none, .op .quiet (oExtract 1 (.tmp 23)), []⟩,
        ⟨5, some 8, none, .op .quiet (oAlloc [(.slice none 0 0), (.slice none 0 0), (.slice none 0 0), (.slice none 0 0)]), []⟩,
        ⟨6, none, none, .op .hard (oStore 4 (.tmp 8) (.tmp 26)), []⟩,
        ⟨7, some 7, none, .op .quiet (oMv (.tmp 27)), []⟩])
      (.seq
       (.seq
        (.ops [⟨0, some 28, none, .op .quiet (oMv (.tmp 7)), []⟩,
          ⟨1, some 29, none, .op .quiet (oArith .neq (.tmp 28) (.val (.int .i64 0))), []⟩])
        (.cond (.tmp 29)
         (.seq
          (.ops [⟨0, some 30, none, .op .quiet (oMv (.tmp 7)), []⟩,
            ⟨1, some 2, none, .op .quiet (oMv (.val (.slice none 0 0))), []⟩,
            ⟨2, some 3, none, .op .quiet (oMv (.val (.bool false))), []⟩,
            ⟨3, some 4, none, .op .quiet (oMv (.tmp 30)), []⟩])
          (.ret))
         (.skip)))
       (.seq
        (.ops [⟨0, some 32, none, .op .reads (oLoadN 2 (.tmp 1)), []⟩,
          ⟨1, some 33, none, .op .reads (oLoadN 4 (.tmp 8)), []⟩,
          ⟨2, some 34, none, .op .quiet (oMv (.tmp 5)), []⟩,
          ⟨3, some 35, none, .callF 108 [(.tmp 32), (.tmp 33), (.tmp 34)], []⟩,
          ⟨4, some 31, none, .op .quiet (oMv (.tmp 35)), []⟩,
          ⟨5, some 36, none, .op .quiet (oExtract 0 (.tmp 31)), []⟩,
          ⟨6, some 37, none, .op .quiet (oExtract 1 (.tmp 31)), []⟩,
          ⟨7, some 9, none, .op .quiet (oMv (.tmp 36)), []⟩,
          ⟨8, some 7, none, .op .quiet (oMv (.tmp 37)), []⟩])
        (.seq
         (.ops [⟨0, some 38, none, .op .quiet (oMv (.tmp 9)), []⟩,
           ⟨1, some 39, none, .op .quiet (oMv (.tmp 7)), []⟩,
           ⟨2, some 40, none, .op .quiet (oArith .eql (.tmp 39) (.val (.int .i64 0))), []⟩,
           ⟨3, some 41, none, .op .quiet (oMv (.tmp 7)), []⟩,
           ⟨4, some 2, none, .op .quiet (oMv (.tmp 38)), []⟩,
           ⟨5, some 3, none, .op .quiet (oMv (.tmp 40)), []⟩,
           ⟨6, some 4, none, .op .quiet (oMv (.tmp 41)), []⟩])
         (.ret))))))))⟩
/-- tangram/lr.Test -/
noncomputable def a52 : AF := ⟨[.tmp 2, .tmp 3, .tmp 4],
 (.seq
   (.ops [⟨0, some 1, none, .op .quiet (oBox (.tmp 0)), []⟩,
     ⟨1, some 2, none, .op .quiet (oMv (.val (.slice none 0 0))), []⟩,
     ⟨2, some 3, none, .op .quiet (oMv (.val (.bool false))), []⟩,
     ⟨3, some 4, none, .op .quiet (oMv (.val (.int .i64 0))), []⟩])
   (.seq
    (.ops [⟨0, some 13, none, .op .reads (oLoadN 2 (.tmp 1)), []⟩,
      ⟨1, some 14, none, .callF 106 [(.tmp 13)], []⟩,
      ⟨2, some 12, none, .op .quiet (oMv (.tmp 14)), []⟩,
      ⟨3, some 15, none, .op .quiet (oExtract 0 (.tmp 12)), []⟩,
      ⟨4, some 16, none, .op .quiet (oExtract 1 (.tmp 12)), []⟩,
      ⟨5, some 5, none, .op .quiet (oAlloc [(.slice none 0 0), (.slice none 0 0), (.slice none 0 0), (.slice none 0 0)]), []⟩,
      ⟨6, none, none, .op .hard (oStore 4 (.tmp 5) (.tmp 15)), []⟩,
      ⟨7, some 6, none, .op .quiet (oMv (.tmp 16)), []⟩])
    (.seq
     (.seq
      (.ops [⟨0, some 17, none, .op .quiet (oMv (.tmp 6)), []⟩,
        ⟨1, some 18, none, .op .quiet (oArith .neq (.tmp 17) (.val (.int .i64 0))), []⟩])
      (.cond (.tmp 18)
       (.seq
        (.ops [⟨0, some 19, none, .op .quiet (oMv (.tmp 6)), []⟩,
          ⟨1, some 2, none, .op .quiet (oMv (.val (.slice none 0 0))), []⟩,
          ⟨2, some 3, none, .op .quiet (oMv (.val (.bool false))), []⟩,
          ⟨3, some 4, none, .op .quiet (oMv (.tmp 19)), []⟩])
        (.ret))
       (.skip)))
     (.seq
      (.seq
       (.ops [⟨0, some 20, none, .op .quiet (oFieldAddr 0 (.tmp 1)), []⟩,
         ⟨1, some 21, none, .op .reads (oLoad (.tmp 20)), []⟩,
         ⟨2, some 22, none, .op .quiet (oArith .geq (.tmp 21) (.val (.int .i64 3))), []⟩,
         ⟨3, some 23, none, .op .quiet (oMv (.tmp 22)), []⟩,
         ⟨4, some 24, some (23, true), .op .quiet (oFieldAddr 1 (.tmp 1)), []⟩,
         ⟨5, some 25, some (23, true), .op .reads (oLoad (.tmp 24)), []⟩,
         ⟨6, some 26, some (23, true), .op .reads (oLen .slice (.tmp 25)), []⟩,
         ⟨7, some 27, some (23, true), .op .quiet (oFieldAddr 0 (.tmp 1)), []⟩,
         ⟨8, some 28, some (23, true), .op .reads (oLoad (.tmp 27)), []⟩,
         ⟨9, some 29, some (23, true), .op .quiet (oArith .mul (.val (.int .i64 3)) (.tmp 28)), []⟩,
         ⟨10, some 30, some (23, true), .op .quiet (oArith .sub (.tmp 29) (.val (.int .i64 6))), []⟩,
         ⟨11, some 31, some (23, true), .op .quiet (oArith .gtr (.tmp 26) (.tmp 30)), []⟩,
         ⟨12, some 32, none, .op .quiet (oPick (.tmp 23) (.tmp 31) (.val (.bool false))), []⟩])
       (.cond (.tmp 32)
        (.seq
         (.ops [⟨0, some 2, none, .op .quiet (oMv (.val (.slice none 0 0))), []⟩,
           ⟨1, some 3, none, .op .quiet (oMv (.val (.bool false))), []⟩,
           ⟨2, some 4, none, .op .quiet (oMv (.val (.int .i64 0))), []⟩])
         (.ret))
        (.skip)))
      (.seq
       (.ops [⟨0, some 34, none, .op .reads (oLoadN 2 (.tmp 1)), []⟩,
         ⟨1, some 35, none, .op .reads (oLoadN 4 (.tmp 5)), []⟩,
         ⟨2, some 36, none, .callF 113 [(.tmp 34), (.tmp 35)], []⟩,
         ⟨3, some 33, none, .op .quiet (oMv (.tmp 36)), []⟩,
         ⟨4, some 37, none, .op .quiet (oExtract 0 (.tmp 33)), []⟩,
         ⟨5, some 38, none, .op .quiet (oExtract 1 (.tmp 33)), []⟩,
         ⟨6, some 7, none, .op .quiet (oAlloc [(.slice none 0 0), (.slice none 0 0), (.slice none 0 0), (.slice none 0 0)]), []⟩,
         ⟨7, none, none, .op .hard (oStore 4 (.tmp 7) (.tmp 37)), []⟩,
         ⟨8, some 6, none, .op .quiet (oMv (.tmp 38)), []⟩])
       (.seq
        (.seq
         (.ops [⟨0, some 39, none, .op .quiet (oMv (.tmp 6)), []⟩,
           ⟨1, some 40, none, .op .quiet (oArith .neq (.tmp 39) (.val (.int .i64 0))), []⟩])
         (.cond (.tmp 40)
          (.seq
           (.ops [⟨0, some 41, none, .op .quiet (oMv (.tmp 6)), []⟩,
             ⟨1, some 2, none, .op .quiet (oMv (.val (.slice none 0 0))), []⟩,
             ⟨2, some 3, none, .op .quiet (oMv (.val (.bool false))), []⟩,
             ⟨3, some 4, none, .op .quiet (oMv (.tmp 41)), []⟩])
           (.ret))
          (.skip)))
        (.seq
         (.ops [⟨0, some 42, none, .op .quiet (oFieldAddr 1 (.tmp 1)), []⟩,
           ⟨1, some 43, none, .op .reads (oLoad (.tmp 42)), []⟩,
           ⟨2, some 44, none, .op .reads (oLen .slice (.tmp 43)), []⟩,
           ⟨3, some 8, none, .op .quiet (oMv (.tmp 44)), []⟩])
         (.seq
          (.drawn [⟨0, some 45, none, .op .reads (oLoadN 2 (.tmp 1)), []⟩,
            ⟨1, some 46, none, .op .reads (oLoadN 4 (.tmp 5)), []⟩,
            ⟨2, some 47, none, .op .reads (oLoadN 4 (.tmp 7)), []⟩,
            ⟨3, some 48, none, .op .quiet (oMv (.tmp 8)), []⟩,
            ⟨4, some 49, none, .op .quiet (oMkSlice 1 8 [(.int .i64 0)] (.tmp 48) (.tmp 48)), []⟩,
            ⟨5, some 50, none, .op .quiet (oMv (.tmp 8)), []⟩,
            ⟨6, some 51, none, .op .quiet (oMkSlice 1 8 [(.int .i64 0)] (.tmp 50) (.tmp 50)), []⟩,
            ⟨7, some 52, none, .op .quiet (oMv (.tmp 8)), []⟩,
            ⟨8, some 53, none, .op .quiet (oMkSlice 1 8 [(.int .i64 0)] (.tmp 52) (.tmp 52)), []⟩,
            ⟨9, some 54, none, .op .quiet (oMv (.tmp 8)), []⟩,
            ⟨10, some 55, none, .op .quiet (oMkSlice 1 8 [(.int .i64 0)] (.tmp 54) (.tmp 54)), []⟩,
            ⟨11, some 56, none, .op .quiet (oBuild [(.int .i64 0), (.slice none 0 0), (.slice none 0 0), (.slice none 0 0), (.slice none 0 0), (.slice none 0 0), (.slice none 0 0), (.slice none 0 0), (.slice none 0 0), (.slice none 0 0), (.slice none 0 0), (.slice none 0 0), (.slice none 0 0), (.slice none 0 0), (.slice none 0 0)] [(0, 2), (2, 4), (6, 4), (11, 1), (12, 1), (13, 1), (14, 1)] [(.tmp 45), (.tmp 46), (.tmp 47), (.tmp 49), (.tmp 51), (.tmp 53), (.tmp 55)]), []⟩,
            ⟨12, some 57, none, .op .quiet (oBox (.tmp 56)), []⟩,
            ⟨13, some 9, none, .op .quiet (oMv (.tmp 57)), []⟩])
          (.seq
           (.seq
            (.ops [⟨0, some 58, none, .op .quiet (oMv (.tmp 8)), []⟩,
              ⟨1, some 59, none, .op .quiet (oMv (.val (.int .i64 0))), []⟩])
            (.block 0
             (.loop
              (.seq
               (.ops [⟨0, some 60, none, .op .quiet (oArith .lss (.tmp 59) (.tmp 58)), []⟩])
               (.seq
                (.cond (.tmp 60)
                 (.skip)
                 (.exit 0))
                (.seq
                 (.block 1
                  (.seq
                   (.ops [⟨0, some 61, none, .op .quiet (oMv (.tmp 59)), []⟩,
                     ⟨1, some 10, none, .op .quiet (oMv (.tmp 61)), []⟩])
                   (.drawn [⟨0, some 62, none, .op .quiet (oMv (.tmp 9)), []⟩,
                     ⟨1, some 63, none, .op .quiet (oNilCheck (.tmp 62)), []⟩,
                     ⟨2, some 64, none, .op .quiet (oFieldAddr 11 (.tmp 63)), []⟩,
                     ⟨3, some 65, none, .op .reads (oLoad (.tmp 64)), []⟩,
                     ⟨4, some 66, none, .op .quiet (oMv (.tmp 10)), []⟩,
                     ⟨5, some 67, none, .op .quiet (oMv (.tmp 9)), []⟩,
                     ⟨6, some 68, none, .op .quiet (oNilCheck (.tmp 67)), []⟩,
                     ⟨7, some 69, none, .op .quiet (oFieldAddr 12 (.tmp 68)), []⟩,
                     ⟨8, some 70, none, .op .reads (oLoad (.tmp 69)), []⟩,
                     ⟨9, some 71, none, .op .quiet (oMv (.tmp 10)), []⟩,
                     ⟨10, some 72, none, .op .quiet (oMv (.tmp 9)), []⟩,
                     ⟨11, some 73, none, .op .quiet (oNilCheck (.tmp 72)), []⟩,
                     ⟨12, some 74, none, .op .quiet (oFieldAddr 14 (.tmp 73)), []⟩,
                     ⟨13, some 75, none, .op .reads (oLoad (.tmp 74)), []⟩,
                     ⟨14, some 76, none, .op .quiet (oMv (.tmp 10)), []⟩,
                     ⟨15, some 77, none, .op .quiet (oIdxS 1 (.tmp 65) (.tmp 66)), []⟩,
                     ⟨16, none, none, .op .hard (oStore 1 (.tmp 77) (.val (.int .i64 (-1)))), []⟩,
                     ⟨17, some 78, none, .op .quiet (oIdxS 1 (.tmp 70) (.tmp 71)), []⟩,
                     ⟨18, none, none, .op .hard (oStore 1 (.tmp 78) (.val (.int .i64 1))), []⟩,
                     ⟨19, some 79, none, .op .quiet (oIdxS 1 (.tmp 75) (.tmp 76)), []⟩,
                     ⟨20, none, none, .op .hard (oStore 1 (.tmp 79) (.val (.int .i64 (-1)))), []⟩])))
                 (.ops [⟨0, some 80, none, .op .quiet (oArith .add (.tmp 59) (.val (.int .i64 1))), []⟩,
                   ⟨1, some 59, none, .op .quiet (oMv (.tmp 80)), []⟩])))))))
           (.seq
            (.seq
             (.ops [⟨0, some 81, none, .op .quiet (oFieldAddr 0 (.tmp 1)), []⟩,
               ⟨1, some 82, none, .op .reads (oLoad (.tmp 81)), []⟩,
               ⟨2, some 83, none, .op .quiet (oMv (.val (.int .i64 0))), []⟩])
             (.block 2
              (.loop
               (.seq
                (.ops [⟨0, some 84, none, .op .quiet (oArith .lss (.tmp 83) (.tmp 82)), []⟩])
                (.seq
                 (.cond (.tmp 84)
                  (.skip)
                  (.exit 2))
                 (.seq
                  (.block 3
                   (.seq
                    (.ops [⟨0, some 85, none, .op .quiet (oMv (.tmp 83)), []⟩,
                      ⟨1, some 11, none, .op .quiet (oMv (.tmp 85)), []⟩])
                    (.seq
                     (.ops [⟨0, some 86, none, .op .quiet (oFieldAddr 0 (.tmp 5)), []⟩,
                       ⟨1, some 87, none, .op .reads (oLoad (.tmp 86)), []⟩,
                       ⟨2, some 88, none, .op .quiet (oMv (.tmp 11)), []⟩,
                       ⟨3, some 89, none, .op .quiet (oIdxS 1 (.tmp 87) (.tmp 88)), []⟩,
                       ⟨4, some 90, none, .op .reads (oLoad (.tmp 89)), []⟩,
                       ⟨5, some 91, none, .op .quiet (oArith .lss (.tmp 90) (.val (.int .i64 0))), []⟩,
                       ⟨6, some 92, none, .op .quiet (oMv (.tmp 91)), []⟩,
                       ⟨7, some 93, some (92, true), .op .quiet (oMv (.tmp 9)), []⟩,
                       ⟨8, some 94, some (92, true), .op .quiet (oMv (.tmp 11)), []⟩,
                       ⟨9, some 95, some (92, true), .callF 114 [(.tmp 93), (.tmp 94)], []⟩,
                       ⟨10, some 96, some (92, true), .op .quiet (oNot (.tmp 95)), []⟩,
                       ⟨11, some 97, none, .op .quiet (oPick (.tmp 92) (.tmp 96) (.val (.bool false))), []⟩])
                     (.cond (.tmp 97)
                      (.seq
                       (.ops [⟨0, some 2, none, .op .quiet (oMv (.val (.slice none 0 0))), []⟩,
                         ⟨1, some 3, none, .op .quiet (oMv (.val (.bool false))), []⟩,
                         ⟨2, some 4, none, .op .quiet (oMv (.val (.int .i64 0))), []⟩])
                       (.ret))
                      (.skip)))))
                  (.ops [⟨0, some 98, none, .op .quiet (oArith .add (.tmp 83) (.val (.int .i64 1))), []⟩,
                    ⟨1, some 83, none, .op .quiet (oMv (.tmp 98)), []⟩])))))))
            (.seq
             (.ops [⟨0, some 99, none, .op .quiet (oMv (.tmp 9)), []⟩,
               ⟨1, some 100, none, .callF 115 [(.tmp 99)], []⟩,
               ⟨2, some 2, none, .op .quiet (oMv (.tmp 100)), []⟩,
               ⟨3, some 3, none, .op .quiet (oMv (.val (.bool true))), []⟩,
               ⟨4, some 4, none, .op .quiet (oMv (.val (.int .i64 0))), []⟩])
             (.ret))))))))))))⟩
/-- tangram/rot.Check -/
noncomputable def a53 : AF := ⟨[.tmp 4, .tmp 5],
 (.seq
   (.ops [⟨0, some 2, none, .op .quiet (oBox (.tmp 0)), []⟩,
     ⟨1, some 3, none, .op .quiet (oBox (.tmp 1)), []⟩,
     ⟨2, some 4, none, .op .quiet (oMv (.val (.int .i64 0))), []⟩,
     ⟨3, some 5, none, .op .quiet (oMv (.val (.int .i64 0))), []⟩])
   (.seq
    (.ops [⟨0, some 6, none, .op .quiet (oClos 117 [] [(.tmp 2), (.tmp 3)]), []⟩,
      ⟨1, some 7, none, .callF 116 [(.tmp 6)], []⟩,
      ⟨2, some 8, none, .op .quiet (oExtract 0 (.tmp 7)), []⟩,
      ⟨3, some 9, none, .op .quiet (oExtract 1 (.tmp 7)), []⟩,
      ⟨4, some 4, none, .op .quiet (oMv (.tmp 8)), []⟩,
      ⟨5, some 5, none, .op .quiet (oMv (.tmp 9)), []⟩])
    (.ret)))⟩
/-- tangram/faces.Flat -/
noncomputable def a55 : AF := ⟨[.tmp 4],
 (.seq
   (.ops [⟨0, some 2, none, .op .quiet (oBox (.tmp 0)), []⟩,
     ⟨1, some 4, none, .op .quiet (oMv (.val (.bool false))), []⟩])
   (.seq
    (.ops [⟨0, some 8, none, .op .reads (oLoadN 2 (.tmp 2)), []⟩,
      ⟨1, some 9, none, .op .quiet (oMv (.tmp 1)), []⟩,
      ⟨2, some 10, none, .callF 119 [(.tmp 8), (.tmp 9)], []⟩,
      ⟨3, some 7, none, .op .quiet (oMv (.tmp 10)), []⟩,
      ⟨4, some 11, none, .op .quiet (oExtract 0 (.tmp 7)), []⟩,
      ⟨5, some 12, none, .op .quiet (oExtract 1 (.tmp 7)), []⟩,
      ⟨6, some 5, none, .op .quiet (oMv (.tmp 11)), []⟩,
      ⟨7, some 6, none, .op .quiet (oMv (.tmp 12)), []⟩])
    (.seq
     (.ops [⟨0, some 13, none, .op .quiet (oMv (.tmp 6)), []⟩,
       ⟨1, some 14, none, .op .quiet (oArith .eql (.tmp 13) (.val (.int .i64 0))), []⟩,
       ⟨2, some 15, none, .op .quiet (oMv (.tmp 14)), []⟩,
       ⟨3, some 16, some (15, true), .op .quiet (oMv (.tmp 5)), []⟩,
       ⟨4, some 17, some (15, true), .op .quiet (oArith .eql (.tmp 16) (.val (.int .i64 0))), []⟩,
       ⟨5, some 18, none, .op .quiet (oPick (.tmp 15) (.tmp 17) (.val (.bool false))), []⟩,
       ⟨6, some 4, none, .op .quiet (oMv (.tmp 18)), []⟩])
     (.ret))))⟩
/-- tangram/tangramlaw25.wakes -/
noncomputable def a82 : AF := ⟨[.tmp 0],
 (.seq
   (.ops [⟨0, some 0, none, .op .quiet (oMv (.val (.bool false))), []⟩])
   (.seq
    (.ops [⟨0, some 10, none, .callF 83 [(.val (.int .i64 10))], []⟩,
      ⟨1, some 9, none, .op .quiet (oMv (.tmp 10)), []⟩,
      ⟨2, some 11, none, .op .quiet (oExtract 0 (.tmp 9)), []⟩,
      ⟨3, some 12, none, .op .quiet (oExtract 1 (.tmp 9)), []⟩,
      ⟨4, some 1, none, .op .quiet (oMv (.tmp 11)), []⟩,
      ⟨5, some 2, none, .op .quiet (oMv (.tmp 12)), []⟩])
    (.seq
     (.ops [⟨0, some 14, none, .callF 144 [(.val (.int .i64 4))], []⟩,
       ⟨1, some 15, none, .callF 85 [(.tmp 14)], []⟩,
       ⟨2, some 13, none, .op .quiet (oMv (.tmp 15)), []⟩,
       ⟨3, some 16, none, .op .quiet (oExtract 0 (.tmp 13)), []⟩,
       ⟨4, some 17, none, .op .quiet (oExtract 1 (.tmp 13)), []⟩,
       ⟨5, some 18, none, .op .quiet (oExtract 2 (.tmp 13)), []⟩,
       ⟨6, some 3, none, .op .quiet (oMv (.tmp 16)), []⟩,
       ⟨7, some 4, none, .op .quiet (oMv (.tmp 17)), []⟩,
       ⟨8, some 5, none, .op .quiet (oMv (.tmp 18)), []⟩])
     (.seq
      (.ops [⟨0, some 20, none, .callF 144 [(.val (.int .i64 5))], []⟩,
        ⟨1, some 21, none, .callF 85 [(.tmp 20)], []⟩,
        ⟨2, some 19, none, .op .quiet (oMv (.tmp 21)), []⟩,
        ⟨3, some 22, none, .op .quiet (oExtract 0 (.tmp 19)), []⟩,
        ⟨4, some 23, none, .op .quiet (oExtract 1 (.tmp 19)), []⟩,
        ⟨5, some 24, none, .op .quiet (oExtract 2 (.tmp 19)), []⟩,
        ⟨6, some 6, none, .op .quiet (oMv (.tmp 22)), []⟩,
        ⟨7, some 7, none, .op .quiet (oMv (.tmp 23)), []⟩,
        ⟨8, some 8, none, .op .quiet (oMv (.tmp 24)), []⟩])
      (.seq
       (.drawn [⟨0, some 25, none, .op .quiet (oMv (.tmp 1)), []⟩,
         ⟨1, some 26, none, .op .quiet (oArith .eql (.tmp 25) (.val (.int .i64 16))), []⟩,
         ⟨2, some 27, none, .op .quiet (oMv (.tmp 26)), []⟩,
         ⟨3, some 28, some (27, true), .op .quiet (oMv (.tmp 2)), []⟩,
         ⟨4, some 29, some (27, true), .op .quiet (oArith .eql (.tmp 28) (.val (.int .i64 8))), []⟩,
         ⟨5, some 30, none, .op .quiet (oPick (.tmp 27) (.tmp 29) (.val (.bool false))), []⟩,
         ⟨6, some 31, none, .op .quiet (oMv (.tmp 30)), []⟩,
         ⟨7, some 32, some (31, true), .op .quiet (oMv (.tmp 5)), []⟩,
         ⟨8, some 33, some (31, true), .op .quiet (oArith .eql (.tmp 32) (.val (.int .i64 0))), []⟩,
         ⟨9, some 34, none, .op .quiet (oPick (.tmp 31) (.tmp 33) (.val (.bool false))), []⟩,
         ⟨10, some 35, none, .op .quiet (oMv (.tmp 34)), []⟩,
         ⟨11, some 36, some (35, true), .op .quiet (oMv (.tmp 8)), []⟩,
         ⟨12, some 37, some (35, true), .op .quiet (oArith .eql (.tmp 36) (.val (.int .i64 0))), []⟩,
         ⟨13, some 38, none, .op .quiet (oPick (.tmp 35) (.tmp 37) (.val (.bool false))), []⟩,
         ⟨14, some 39, none, .op .quiet (oMv (.tmp 38)), []⟩,
         ⟨15, some 40, some (39, true), .op .quiet (oMv (.tmp 4)), []⟩,
         ⟨16, some 41, none, .op .quiet (oPick (.tmp 39) (.tmp 40) (.val (.bool false))), []⟩,
         ⟨17, some 42, none, .op .quiet (oMv (.tmp 41)), []⟩,
         ⟨18, some 43, some (42, true), .op .quiet (oMv (.tmp 7)), []⟩,
         ⟨19, some 44, some (42, true), .op .quiet (oNot (.tmp 43)), []⟩,
         ⟨20, some 45, none, .op .quiet (oPick (.tmp 42) (.tmp 44) (.val (.bool false))), []⟩,
         ⟨21, some 46, none, .op .quiet (oMv (.tmp 45)), []⟩,
         ⟨22, some 47, some (46, true), .op .quiet (oMv (.tmp 3)), []⟩,
         ⟨23, some 48, some (46, true), .op .reads (oLen .slice (.tmp 47)), []⟩,
         ⟨24, some 49, some (46, true), .op .quiet (oArith .eql (.tmp 48) (.val (.int .i64 4))), []⟩,
         ⟨25, some 50, none, .op .quiet (oPick (.tmp 46) (.tmp 49) (.val (.bool false))), []⟩,
         ⟨26, some 51, none, .op .quiet (oMv (.tmp 50)), []⟩,
         ⟨27, some 52, some (51, true), .op .quiet (oMv (.tmp 3)), []⟩,
         ⟨28, some 53, some (51, true), .op .quiet (oIdxS 2 (.tmp 52) (.val (.int .i64 0))), []⟩,
         ⟨29, some 54, some (51, true), .op .reads (oLoadN 2 (.tmp 53)), []⟩,
         ⟨30, some 55, some (51, true), .op .quiet (oMv (.tmp 3)), []⟩,
         ⟨31, some 56, some (51, true), .op .quiet (oIdxS 2 (.tmp 55) (.val (.int .i64 1))), []⟩,
         ⟨32, some 57, some (51, true), .op .reads (oLoadN 2 (.tmp 56)), []⟩,
         ⟨33, some 58, some (51, true), .op .quiet (oEq true (.ints 2) (.tmp 54) (.tmp 57)), []⟩,
         ⟨34, some 59, none, .op .quiet (oPick (.tmp 51) (.tmp 58) (.val (.bool false))), []⟩,
         ⟨35, some 0, none, .op .quiet (oMv (.tmp 59)), []⟩])
       (.ret))))))⟩
/-- tangram/grid.Size -/
noncomputable def a83 : AF := ⟨[.tmp 2, .tmp 3],
 (.seq
   (.ops [⟨0, some 2, none, .op .quiet (oMv (.val (.int .i64 0))), []⟩,
     ⟨1, some 3, none, .op .quiet (oMv (.val (.int .i64 0))), []⟩])
   (.seq
    (.block 0
     (.seq
      (.ops [⟨0, some 5, none, .op .quiet (oMv (.tmp 0)), []⟩,
        ⟨1, some 6, none, .op .quiet (oArith .eql (.tmp 5) (.val (.int .i64 2))), []⟩,
        ⟨2, some 4, none, .op .quiet (oMv (.tmp 6)), []⟩])
      (.cond (.tmp 4)
       (.seq
        (.ops [⟨0, some 2, none, .op .quiet (oMv (.val (.int .i64 1))), []⟩,
          ⟨1, some 3, none, .op .quiet (oMv (.val (.int .i64 0))), []⟩])
        (.ret))
       (.seq
        (.ops [⟨0, some 8, none, .op .quiet (oMv (.tmp 0)), []⟩,
          ⟨1, some 9, none, .op .quiet (oArith .geq (.tmp 8) (.val (.int .i64 3))), []⟩,
          ⟨2, some 10, none, .op .quiet (oMv (.tmp 9)), []⟩,
          ⟨3, some 11, some (10, true), .op .quiet (oMv (.tmp 0)), []⟩,
          ⟨4, some 12, some (10, true), .op .quiet (oArith .leq (.tmp 11) (.val (.int .i64 1048576))), []⟩,
          ⟨5, some 13, none, .op .quiet (oPick (.tmp 10) (.tmp 12) (.val (.bool false))), []⟩,
          ⟨6, some 7, none, .op .quiet (oMv (.tmp 13)), []⟩])
        (.cond (.tmp 7)
         (.seq
          (.ops [⟨0, some 14, none, .op .quiet (oMv (.tmp 0)), []⟩,
            ⟨1, some 15, none, .op .quiet (oArith .mul (.val (.int .i64 2)) (.tmp 14)), []⟩,
            ⟨2, some 16, none, .op .quiet (oArith .sub (.tmp 15) (.val (.int .i64 4))), []⟩,
            ⟨3, some 17, none, .op .quiet (oMv (.tmp 0)), []⟩,
            ⟨4, some 18, none, .op .quiet (oArith .sub (.tmp 17) (.val (.int .i64 2))), []⟩,
            ⟨5, some 2, none, .op .quiet (oMv (.tmp 16)), []⟩,
            ⟨6, some 3, none, .op .quiet (oMv (.tmp 18)), []⟩])
          (.ret))
         (.skip))))))
    (.seq
     (.ops [⟨0, some 2, none, .op .quiet (oMv (.val (.int .i64 0))), []⟩,
       ⟨1, some 3, none, .op .quiet (oMv (.val (.int .i64 0))), []⟩])
     (.ret))))⟩
/-- tangram/tangramref25.Size -/
noncomputable def a84 : AF := ⟨[.tmp 2, .tmp 3],
 (.seq
   (.ops [⟨0, some 2, none, .op .quiet (oMv (.val (.int .i64 0))), []⟩,
     ⟨1, some 3, none, .op .quiet (oMv (.val (.int .i64 0))), []⟩])
   (.seq
    (.seq
     (.ops [⟨0, some 4, none, .op .quiet (oMv (.tmp 0)), []⟩,
       ⟨1, some 5, none, .op .quiet (oArith .eql (.tmp 4) (.val (.int .i64 2))), []⟩])
     (.cond (.tmp 5)
      (.seq
       (.ops [⟨0, some 2, none, .op .quiet (oMv (.val (.int .i64 1))), []⟩,
         ⟨1, some 3, none, .op .quiet (oMv (.val (.int .i64 0))), []⟩])
       (.ret))
      (.skip)))
    (.seq
     (.seq
      (.ops [⟨0, some 6, none, .op .quiet (oMv (.tmp 0)), []⟩,
        ⟨1, some 7, none, .op .quiet (oArith .geq (.tmp 6) (.val (.int .i64 3))), []⟩,
        ⟨2, some 8, none, .op .quiet (oMv (.tmp 7)), []⟩,
        ⟨3, some 9, some (8, true), .op .quiet (oMv (.tmp 0)), []⟩,
        ⟨4, some 10, some (8, true), .op .quiet (oArith .leq (.tmp 9) (.val (.int .i64 1048576))), []⟩,
        ⟨5, some 11, none, .op .quiet (oPick (.tmp 8) (.tmp 10) (.val (.bool false))), []⟩])
      (.cond (.tmp 11)
       (.seq
        (.ops [⟨0, some 12, none, .op .quiet (oMv (.tmp 0)), []⟩,
          ⟨1, some 13, none, .op .quiet (oArith .mul (.val (.int .i64 2)) (.tmp 12)), []⟩,
          ⟨2, some 14, none, .op .quiet (oArith .sub (.tmp 13) (.val (.int .i64 4))), []⟩,
          ⟨3, some 15, none, .op .quiet (oMv (.tmp 0)), []⟩,
          ⟨4, some 16, none, .op .quiet (oArith .sub (.tmp 15) (.val (.int .i64 2))), []⟩,
          ⟨5, some 2, none, .op .quiet (oMv (.tmp 14)), []⟩,
          ⟨6, some 3, none, .op .quiet (oMv (.tmp 16)), []⟩])
        (.ret))
       (.skip)))
     (.seq
      (.ops [⟨0, some 2, none, .op .quiet (oMv (.val (.int .i64 0))), []⟩,
        ⟨1, some 3, none, .op .quiet (oMv (.val (.int .i64 0))), []⟩])
      (.ret)))))⟩
/-- tangram/grid.Draw -/
noncomputable def a85 : AF := ⟨[.tmp 2, .tmp 3, .tmp 4],
 (.seq
   (.ops [⟨0, some 1, none, .op .quiet (oBox (.tmp 0)), []⟩,
     ⟨1, some 2, none, .op .quiet (oMv (.val (.slice none 0 0))), []⟩,
     ⟨2, some 3, none, .op .quiet (oMv (.val (.bool false))), []⟩,
     ⟨3, some 4, none, .op .quiet (oMv (.val (.int .i64 0))), []⟩])
   (.seq
    (.ops [⟨0, some 18, none, .op .reads (oLoadN 2 (.tmp 1)), []⟩,
      ⟨1, some 19, none, .callF 47 [(.tmp 18)], []⟩,
      ⟨2, some 17, none, .op .quiet (oMv (.tmp 19)), []⟩,
      ⟨3, some 20, none, .op .quiet (oExtract 0 (.tmp 17)), []⟩,
      ⟨4, some 21, none, .op .quiet (oExtract 1 (.tmp 17)), []⟩,
      ⟨5, some 22, none, .op .quiet (oExtract 2 (.tmp 17)), []⟩,
      ⟨6, some 5, none, .op .quiet (oMv (.tmp 20)), []⟩,
      ⟨7, some 6, none, .op .quiet (oMv (.tmp 21)), []⟩,
      ⟨8, some 7, none, .op .quiet (oMv (.tmp 22)), []⟩])
    (.seq
     (.seq
      (.ops [⟨0, some 23, none, .op .quiet (oMv (.tmp 7)), []⟩,
        ⟨1, some 24, none, .op .quiet (oArith .neq (.tmp 23) (.val (.int .i64 0))), []⟩,
        ⟨2, some 25, none, .op .quiet (oMv (.tmp 24)), []⟩,
        ⟨3, some 26, some (25, false), .op .quiet (oMv (.tmp 6)), []⟩,
        ⟨4, some 27, some (25, false), .op .quiet (oNot (.tmp 26)), []⟩,
        ⟨5, some 28, none, .op .quiet (oPick (.tmp 25) (.val (.bool true)) (.tmp 27)), []⟩])
      (.cond (.tmp 28)
       (.seq
        (.ops [⟨0, some 29, none, .op .quiet (oMv (.tmp 7)), []⟩,
          ⟨1, some 2, none, .op .quiet (oMv (.val (.slice none 0 0))), []⟩,
          ⟨2, some 3, none, .op .quiet (oMv (.val (.bool false))), []⟩,
          ⟨3, some 4, none, .op .quiet (oMv (.tmp 29)), []⟩])
        (.ret))
       (.skip)))
     (.seq
      (.seq
       (.ops [⟨0, some 30, none, .op .quiet (oFieldAddr 0 (.tmp 1)), []⟩,
         ⟨1, some 31, none, .op .reads (oLoad (.tmp 30)), []⟩,
         ⟨2, some 32, none, .op .quiet (oArith .lss (.tmp 31) (.val (.int .i64 3))), []⟩])
       (.cond (.tmp 32)
        (.seq
         (.ops [⟨0, some 33, none, .op .quiet (oFieldAddr 0 (.tmp 1)), []⟩,
           ⟨1, some 34, none, .op .reads (oLoad (.tmp 33)), []⟩,
           ⟨2, some 35, none, .op .quiet (oMkSlice 2 16 [(.int .i64 0), (.int .i64 0)] (.tmp 34) (.tmp 34)), []⟩,
           ⟨3, some 8, none, .op .quiet (oMv (.tmp 35)), []⟩])
         (.seq
          (.seq
           (.ops [⟨0, some 36, none, .op .quiet (oMv (.tmp 8)), []⟩,
             ⟨1, some 37, none, .op .reads (oLen .slice (.tmp 36)), []⟩,
             ⟨2, some 38, none, .op .quiet (oMv (.val (.int .i64 0))), []⟩])
           (.block 0
            (.loop
             (.seq
              (.ops [⟨0, some 39, none, .op .quiet (oArith .lss (.tmp 38) (.tmp 37)), []⟩])
              (.seq
               (.cond (.tmp 39)
                (.skip)
                (.exit 0))
               (.seq
                (.block 1
                 (.seq
                  (.ops [⟨0, some 40, none, .op .quiet (oMv (.tmp 38)), []⟩,
                    ⟨1, some 9, none, .op .quiet (oMv (.tmp 40)), []⟩])
                  (.ops [⟨0, some 41, none, .op .quiet (oMv (.tmp 8)), []⟩,
                    ⟨1, some 42, none, .op .quiet (oMv (.tmp 9)), []⟩,
                    ⟨2, some 43, none, .op .quiet (oMv (.tmp 9)), []⟩,
                    ⟨3, some 44, none, .op .quiet (oIdxS 2 (.tmp 41) (.tmp 42)), []⟩,
                    ⟨4, some 45, none, .op .quiet (oFieldAddr 0 (.tmp 44)), []⟩,
                    ⟨5, none, none, .op .hard (oStore 1 (.tmp 45) (.tmp 43)), []⟩])))
                (.ops [⟨0, some 46, none, .op .quiet (oArith .add (.tmp 38) (.val (.int .i64 1))), []⟩,
                  ⟨1, some 38, none, .op .quiet (oMv (.tmp 46)), []⟩])))))))
          (.seq
           (.ops [⟨0, some 47, none, .op .quiet (oMv (.tmp 8)), []⟩,
             ⟨1, some 2, none, .op .quiet (oMv (.tmp 47)), []⟩,
             ⟨2, some 3, none, .op .quiet (oMv (.val (.bool true))), []⟩,
             ⟨3, some 4, none, .op .quiet (oMv (.val (.int .i64 0))), []⟩])
           (.ret))))
        (.skip)))
      (.seq
       (.ops [⟨0, some 49, none, .op .reads (oLoadN 2 (.tmp 1)), []⟩,
         ⟨1, some 50, none, .op .quiet (oMv (.tmp 5)), []⟩,
         ⟨2, some 51, none, .callF 145 [(.tmp 49), (.tmp 50)], []⟩,
         ⟨3, some 48, none, .op .quiet (oMv (.tmp 51)), []⟩,
         ⟨4, some 52, none, .op .quiet (oExtract 0 (.tmp 48)), []⟩,
         ⟨5, some 53, none, .op .quiet (oExtract 1 (.tmp 48)), []⟩,
         ⟨6, some 54, none, .op .quiet (oExtract 2 (.tmp 48)), []⟩,
         ⟨7, some 10, none, .op .quiet (oAlloc [(.int .i64 0), (.slice none 0 0)]), []⟩,
         ⟨8, none, none, .op .hard (oStore 2 (.tmp 10) (.tmp 52)), []⟩,
         ⟨9, some 11, none, .op .quiet (oMv (.tmp 53)), []⟩,
         ⟨10, some 12, none, .op .quiet (oMv (.tmp 54)), []⟩])
       (.seq
        (.ops [⟨0, some 56, none, .op .reads (oLoadN 2 (.tmp 10)), []⟩,
          ⟨1, some 57, none, .op .quiet (oMv (.tmp 11)), []⟩,
          ⟨2, some 58, none, .callF 146 [(.tmp 56), (.tmp 57), (.val (.int .i64 0))], []⟩,
          ⟨3, some 55, none, .op .quiet (oMv (.tmp 58)), []⟩,
          ⟨4, some 59, none, .op .quiet (oExtract 0 (.tmp 55)), []⟩,
          ⟨5, some 60, none, .op .quiet (oExtract 1 (.tmp 55)), []⟩,
          ⟨6, some 13, none, .op .quiet (oMv (.tmp 59)), []⟩,
          ⟨7, some 14, none, .op .quiet (oMv (.tmp 60)), []⟩])
        (.seq
         (.ops [⟨0, some 62, none, .op .reads (oLoadN 2 (.tmp 10)), []⟩,
           ⟨1, some 63, none, .op .quiet (oMv (.tmp 11)), []⟩,
           ⟨2, some 64, none, .op .quiet (oMv (.tmp 13)), []⟩,
           ⟨3, some 65, none, .callF 147 [(.tmp 62), (.tmp 63), (.val (.int .i64 0)), (.tmp 64)], []⟩,
           ⟨4, some 61, none, .op .quiet (oMv (.tmp 65)), []⟩,
           ⟨5, some 66, none, .op .quiet (oExtract 0 (.tmp 61)), []⟩,
           ⟨6, some 67, none, .op .quiet (oExtract 1 (.tmp 61)), []⟩,
           ⟨7, some 15, none, .op .quiet (oMv (.tmp 66)), []⟩,
           ⟨8, some 16, none, .op .quiet (oMv (.tmp 67)), []⟩])
         (.seq
          (.ops [⟨0, some 68, none, .op .quiet (oMv (.tmp 13)), []⟩,
            ⟨1, some 69, none, .op .quiet (oMv (.tmp 15)), []⟩,
            ⟨2, some 70, none, .callF 148 [(.tmp 68), (.tmp 69)], []⟩,
            ⟨3, some 2, none, .op .quiet (oMv (.tmp 70)), []⟩,
            ⟨4, some 3, none, .op .quiet (oMv (.val (.bool true))), []⟩,
            ⟨5, some 4, none, .op .quiet (oMv (.val (.int .i64 0))), []⟩])
          (.ret)))))))))⟩
/-- tangram/csr.New -/
noncomputable def a88 : AF := ⟨[.tmp 2, .tmp 3],
 (.seq
   (.ops [⟨0, some 1, none, .op .quiet (oBox (.tmp 0)), []⟩,
     ⟨1, some 2, none, .op .quiet (oMv (.val (.pointer none))), []⟩,
     ⟨2, some 3, none, .op .quiet (oMv (.val (.int .i64 0))), []⟩])
   (.seq
    (.seq
     (.ops [⟨0, some 13, none, .op .reads (oLoadN 2 (.tmp 1)), []⟩,
       ⟨1, some 14, none, .callF 92 [(.tmp 13)], []⟩,
       ⟨2, some 15, none, .op .quiet (oNot (.tmp 14)), []⟩])
     (.cond (.tmp 15)
      (.seq
       (.ops [⟨0, some 2, none, .op .quiet (oMv (.val (.pointer none))), []⟩,
         ⟨1, some 3, none, .op .quiet (oMv (.val (.int .i64 1))), []⟩])
       (.ret))
      (.skip)))
    (.seq
     (.ops [⟨0, some 16, none, .op .quiet (oFieldAddr 1 (.tmp 1)), []⟩,
       ⟨1, some 17, none, .op .reads (oLoad (.tmp 16)), []⟩,
       ⟨2, some 18, none, .op .reads (oLen .slice (.tmp 17)), []⟩,
       ⟨3, some 4, none, .op .quiet (oMv (.tmp 18)), []⟩])
     (.seq
      (.drawn [⟨0, some 19, none, .op .quiet (oMv (.tmp 4)), []⟩,
        ⟨1, some 20, none, .op .quiet (oArith .mul (.val (.int .i64 2)) (.tmp 19)), []⟩,
        ⟨2, some 21, none, .op .quiet (oMkSlice 1 8 [(.int .i64 0)] (.tmp 20) (.tmp 20)), []⟩,
        ⟨3, some 22, none, .op .quiet (oFieldAddr 0 (.tmp 1)), []⟩,
        ⟨4, some 23, none, .op .reads (oLoad (.tmp 22)), []⟩,
        ⟨5, some 24, none, .op .quiet (oArith .add (.tmp 23) (.val (.int .i64 1))), []⟩,
        ⟨6, some 25, none, .op .quiet (oMkSlice 1 8 [(.int .i64 0)] (.tmp 24) (.tmp 24)), []⟩,
        ⟨7, some 26, none, .op .quiet (oMv (.tmp 4)), []⟩,
        ⟨8, some 27, none, .op .quiet (oArith .mul (.val (.int .i64 2)) (.tmp 26)), []⟩,
        ⟨9, some 28, none, .op .quiet (oMkSlice 1 8 [(.int .i64 0)] (.tmp 27) (.tmp 27)), []⟩,
        ⟨10, some 29, none, .op .quiet (oMv (.tmp 4)), []⟩,
        ⟨11, some 30, none, .op .quiet (oArith .mul (.val (.int .i64 2)) (.tmp 29)), []⟩,
        ⟨12, some 31, none, .op .quiet (oMkSlice 1 8 [(.int .i64 0)] (.tmp 30) (.tmp 30)), []⟩,
        ⟨13, some 32, none, .op .quiet (oBuild [(.slice none 0 0), (.slice none 0 0), (.slice none 0 0), (.slice none 0 0)] [(0, 1), (1, 1), (2, 1), (3, 1)] [(.tmp 21), (.tmp 25), (.tmp 28), (.tmp 31)]), []⟩,
        ⟨14, some 33, none, .op .quiet (oBox (.tmp 32)), []⟩,
        ⟨15, some 5, none, .op .quiet (oAlloc [(.pointer none)]), []⟩,
        ⟨16, none, none, .op .hard (oStore 1 (.tmp 5) (.tmp 33)), []⟩])
      (.seq
       (.seq
        (.ops [⟨0, some 34, none, .op .quiet (oFieldAddr 1 (.tmp 1)), []⟩,
          ⟨1, some 35, none, .op .reads (oLoad (.tmp 34)), []⟩,
          ⟨2, some 36, none, .op .reads (oLen .slice (.tmp 35)), []⟩,
          ⟨3, some 37, none, .op .quiet (oMv (.val (.int .i64 0))), []⟩])
        (.block 0
         (.loop
          (.seq
           (.ops [⟨0, some 38, none, .op .quiet (oArith .lss (.tmp 37) (.tmp 36)), []⟩])
           (.seq
            (.cond (.tmp 38)
             (.skip)
             (.exit 0))
            (.seq
             (.block 1
              (.seq
               (.ops [⟨0, some 39, none, .op .quiet (oMv (.tmp 37)), []⟩,
                 ⟨1, some 40, none, .op .quiet (oIdxS 2 (.tmp 35) (.tmp 37)), []⟩,
                 ⟨2, some 41, none, .op .reads (oLoadN 2 (.tmp 40)), []⟩,
                 ⟨3, some 7, none, .op .quiet (oAlloc [(.int .i64 0), (.int .i64 0)]), []⟩,
                 ⟨4, some 6, none, .op .quiet (oMv (.tmp 39)), []⟩,
                 ⟨5, none, none, .op .hard (oStore 2 (.tmp 7) (.tmp 41)), []⟩])
               (.seq
                (.drawn [⟨0, some 42, none, .op .reads (oLoad (.tmp 5)), []⟩,
                  ⟨1, some 43, none, .op .quiet (oNilCheck (.tmp 42)), []⟩,
                  ⟨2, some 44, none, .op .quiet (oFieldAddr 0 (.tmp 43)), []⟩,
                  ⟨3, some 45, none, .op .reads (oLoad (.tmp 44)), []⟩,
                  ⟨4, some 46, none, .op .quiet (oMv (.tmp 6)), []⟩,
                  ⟨5, some 47, none, .op .quiet (oArith .mul (.val (.int .i64 2)) (.tmp 46)), []⟩,
                  ⟨6, some 48, none, .op .reads (oLoad (.tmp 5)), []⟩,
                  ⟨7, some 49, none, .op .quiet (oNilCheck (.tmp 48)), []⟩,
                  ⟨8, some 50, none, .op .quiet (oFieldAddr 0 (.tmp 49)), []⟩,
                  ⟨9, some 51, none, .op .reads (oLoad (.tmp 50)), []⟩,
                  ⟨10, some 52, none, .op .quiet (oMv (.tmp 6)), []⟩,
                  ⟨11, some 53, none, .op .quiet (oArith .mul (.val (.int .i64 2)) (.tmp 52)), []⟩,
                  ⟨12, some 54, none, .op .quiet (oArith .add (.tmp 53) (.val (.int .i64 1))), []⟩,
                  ⟨13, some 55, none, .op .quiet (oFieldAddr 0 (.tmp 7)), []⟩,
                  ⟨14, some 56, none, .op .reads (oLoad (.tmp 55)), []⟩,
                  ⟨15, some 57, none, .op .quiet (oFieldAddr 1 (.tmp 7)), []⟩,
                  ⟨16, some 58, none, .op .reads (oLoad (.tmp 57)), []⟩,
                  ⟨17, some 59, none, .op .quiet (oIdxS 1 (.tmp 45) (.tmp 47)), []⟩,
                  ⟨18, none, none, .op .hard (oStore 1 (.tmp 59) (.tmp 56)), [16]⟩,
                  ⟨19, some 60, none, .op .quiet (oIdxS 1 (.tmp 51) (.tmp 54)), []⟩,
                  ⟨20, none, none, .op .hard (oStore 1 (.tmp 60) (.tmp 58)), []⟩])
                (.seq
                 (.drawn [⟨0, some 61, none, .op .reads (oLoad (.tmp 5)), []⟩,
                   ⟨1, some 62, none, .op .quiet (oNilCheck (.tmp 61)), []⟩,
                   ⟨2, some 63, none, .op .quiet (oFieldAddr 1 (.tmp 62)), []⟩,
                   ⟨3, some 64, none, .op .reads (oLoad (.tmp 63)), []⟩,
                   ⟨4, some 65, none, .op .quiet (oFieldAddr 0 (.tmp 7)), []⟩,
                   ⟨5, some 66, none, .op .reads (oLoad (.tmp 65)), []⟩,
                   ⟨6, some 67, none, .op .quiet (oArith .add (.tmp 66) (.val (.int .i64 1))), []⟩,
                   ⟨7, some 68, none, .op .quiet (oIdxS 1 (.tmp 64) (.tmp 67)), []⟩,
                   ⟨8, some 69, none, .op .reads (oLoad (.tmp 68)), []⟩,
                   ⟨9, some 70, none, .op .quiet (oArith .add (.tmp 69) (.val (.int .i64 1))), []⟩,
                   ⟨10, some 71, none, .op .quiet (oIdxS 1 (.tmp 64) (.tmp 67)), []⟩,
                   ⟨11, none, none, .op .hard (oStore 1 (.tmp 71) (.tmp 70)), []⟩])
                 (.drawn [⟨0, some 72, none, .op .reads (oLoad (.tmp 5)), []⟩,
                   ⟨1, some 73, none, .op .quiet (oNilCheck (.tmp 72)), []⟩,
                   ⟨2, some 74, none, .op .quiet (oFieldAddr 1 (.tmp 73)), []⟩,
                   ⟨3, some 75, none, .op .reads (oLoad (.tmp 74)), []⟩,
                   ⟨4, some 76, none, .op .quiet (oFieldAddr 1 (.tmp 7)), []⟩,
                   ⟨5, some 77, none, .op .reads (oLoad (.tmp 76)), []⟩,
                   ⟨6, some 78, none, .op .quiet (oArith .add (.tmp 77) (.val (.int .i64 1))), []⟩,
                   ⟨7, some 79, none, .op .quiet (oIdxS 1 (.tmp 75) (.tmp 78)), []⟩,
                   ⟨8, some 80, none, .op .reads (oLoad (.tmp 79)), []⟩,
                   ⟨9, some 81, none, .op .quiet (oArith .add (.tmp 80) (.val (.int .i64 1))), []⟩,
                   ⟨10, some 82, none, .op .quiet (oIdxS 1 (.tmp 75) (.tmp 78)), []⟩,
                   ⟨11, none, none, .op .hard (oStore 1 (.tmp 82) (.tmp 81)), []⟩])))))
             (.ops [⟨0, some 83, none, .op .quiet (oArith .add (.tmp 37) (.val (.int .i64 1))), []⟩,
               ⟨1, some 37, none, .op .quiet (oMv (.tmp 83)), []⟩])))))))
       (.seq
        (.seq
         (.ops [⟨0, some 84, none, .op .quiet (oFieldAddr 0 (.tmp 1)), []⟩,
           ⟨1, some 85, none, .op .reads (oLoad (.tmp 84)), []⟩,
           ⟨2, some 86, none, .op .quiet (oMv (.val (.int .i64 0))), []⟩])
         (.block 2
          (.loop
           (.seq
            (.ops [⟨0, some 87, none, .op .quiet (oArith .lss (.tmp 86) (.tmp 85)), []⟩])
            (.seq
             (.cond (.tmp 87)
              (.skip)
              (.exit 2))
             (.seq
              (.block 3
               (.seq
                (.ops [⟨0, some 88, none, .op .quiet (oMv (.tmp 86)), []⟩,
                  ⟨1, some 8, none, .op .quiet (oMv (.tmp 88)), []⟩])
                (.drawn [⟨0, some 89, none, .op .reads (oLoad (.tmp 5)), []⟩,
                  ⟨1, some 90, none, .op .quiet (oNilCheck (.tmp 89)), []⟩,
                  ⟨2, some 91, none, .op .quiet (oFieldAddr 1 (.tmp 90)), []⟩,
                  ⟨3, some 92, none, .op .reads (oLoad (.tmp 91)), []⟩,
                  ⟨4, some 93, none, .op .quiet (oMv (.tmp 8)), []⟩,
                  ⟨5, some 94, none, .op .quiet (oArith .add (.tmp 93) (.val (.int .i64 1))), []⟩,
                  ⟨6, some 95, none, .op .quiet (oIdxS 1 (.tmp 92) (.tmp 94)), []⟩,
                  ⟨7, some 96, none, .op .reads (oLoad (.tmp 95)), []⟩,
                  ⟨8, some 97, none, .op .reads (oLoad (.tmp 5)), []⟩,
                  ⟨9, some 98, none, .op .quiet (oNilCheck (.tmp 97)), []⟩,
                  ⟨10, some 99, none, .op .quiet (oFieldAddr 1 (.tmp 98)), []⟩,
                  ⟨11, some 100, none, .op .reads (oLoad (.tmp 99)), []⟩,
                  ⟨12, some 101, none, .op .quiet (oMv (.tmp 8)), []⟩,
                  ⟨13, some 102, none, .op .quiet (oIdxS 1 (.tmp 100) (.tmp 101)), []⟩,
                  ⟨14, some 103, none, .op .reads (oLoad (.tmp 102)), []⟩,
                  ⟨15, some 104, none, .op .quiet (oArith .add (.tmp 96) (.tmp 103)), []⟩,
                  ⟨16, some 105, none, .op .quiet (oIdxS 1 (.tmp 92) (.tmp 94)), []⟩,
                  ⟨17, none, none, .op .hard (oStore 1 (.tmp 105) (.tmp 104)), []⟩])))
              (.ops [⟨0, some 106, none, .op .quiet (oArith .add (.tmp 86) (.val (.int .i64 1))), []⟩,
                ⟨1, some 86, none, .op .quiet (oMv (.tmp 106)), []⟩])))))))
        (.seq
         (.ops [⟨0, some 107, none, .op .quiet (oBuildSlice 1 0 [(.int .i64 0)] [] []), []⟩,
           ⟨1, some 108, none, .op .reads (oLoad (.tmp 5)), []⟩,
           ⟨2, some 109, none, .op .quiet (oNilCheck (.tmp 108)), []⟩,
           ⟨3, some 110, none, .op .quiet (oFieldAddr 1 (.tmp 109)), []⟩,
           ⟨4, some 111, none, .op .reads (oLoad (.tmp 110)), []⟩,
           ⟨5, some 112, none, .op .hard (oAppend 1 8 (.tmp 107) (.tmp 111)), []⟩,
           ⟨6, some 9, none, .op .quiet (oAlloc [(.slice none 0 0)]), []⟩,
           ⟨7, none, none, .op .hard (oStore 1 (.tmp 9) (.tmp 112)), []⟩])
         (.seq
          (.ops [⟨0, some 113, none, .op .quiet (oClos 151 [] [(.tmp 9), (.tmp 5)]), []⟩,
            ⟨1, some 10, none, .op .quiet (oMv (.tmp 113)), []⟩])
          (.seq
           (.seq
            (.ops [⟨0, some 114, none, .op .quiet (oMv (.tmp 4)), []⟩,
              ⟨1, some 115, none, .op .quiet (oMv (.val (.int .i64 0))), []⟩])
            (.block 4
             (.loop
              (.seq
               (.ops [⟨0, some 116, none, .op .quiet (oArith .lss (.tmp 115) (.tmp 114)), []⟩])
               (.seq
                (.cond (.tmp 116)
                 (.skip)
                 (.exit 4))
                (.seq
                 (.block 5
                  (.seq
                   (.ops [⟨0, some 117, none, .op .quiet (oMv (.tmp 115)), []⟩,
                     ⟨1, some 11, none, .op .quiet (oMv (.tmp 117)), []⟩])
                   (.ops [⟨0, some 118, none, .op .quiet (oMv (.tmp 10)), []⟩,
                     ⟨1, some 119, none, .op .quiet (oMv (.tmp 11)), []⟩,
                     ⟨2, some 120, none, .op .quiet (oArith .mul (.val (.int .i64 2)) (.tmp 119)), []⟩,
                     ⟨3, some 121, none, .op .quiet (oArith .add (.tmp 120) (.val (.int .i64 1))), []⟩,
                     ⟨4, some 122, none, .call (.tmp 118) [(.tmp 121)], []⟩])))
                 (.ops [⟨0, some 123, none, .op .quiet (oArith .add (.tmp 115) (.val (.int .i64 1))), []⟩,
                   ⟨1, some 115, none, .op .quiet (oMv (.tmp 123)), []⟩])))))))
           (.seq
            (.seq
             (.ops [⟨0, some 124, none, .op .quiet (oMv (.tmp 4)), []⟩,
               ⟨1, some 125, none, .op .quiet (oMv (.val (.int .i64 0))), []⟩])
             (.block 6
              (.loop
               (.seq
                (.ops [⟨0, some 126, none, .op .quiet (oArith .lss (.tmp 125) (.tmp 124)), []⟩])
                (.seq
                 (.cond (.tmp 126)
                  (.skip)
                  (.exit 6))
                 (.seq
                  (.block 7
                   (.seq
                    (.ops [⟨0, some 127, none, .op .quiet (oMv (.tmp 125)), []⟩,
                      ⟨1, some 12, none, .op .quiet (oMv (.tmp 127)), []⟩])
                    (.ops [⟨0, some 128, none, .op .quiet (oMv (.tmp 10)), []⟩,
                      ⟨1, some 129, none, .op .quiet (oMv (.tmp 12)), []⟩,
                      ⟨2, some 130, none, .op .quiet (oArith .mul (.val (.int .i64 2)) (.tmp 129)), []⟩,
                      ⟨3, some 131, none, .call (.tmp 128) [(.tmp 130)], []⟩])))
                  (.ops [⟨0, some 132, none, .op .quiet (oArith .add (.tmp 125) (.val (.int .i64 1))), []⟩,
                    ⟨1, some 125, none, .op .quiet (oMv (.tmp 132)), []⟩])))))))
            (.seq
             (.ops [⟨0, some 133, none, .op .reads (oLoad (.tmp 5)), []⟩,
               ⟨1, some 2, none, .op .quiet (oMv (.tmp 133)), []⟩,
               ⟨2, some 3, none, .op .quiet (oMv (.val (.int .i64 0))), []⟩])
             (.ret))))))))))))⟩
/-- tangram/simple.Valid -/
noncomputable def a92 : AF := ⟨[.tmp 2],
 (.seq
   (.ops [⟨0, some 1, none, .op .quiet (oBox (.tmp 0)), []⟩,
     ⟨1, some 2, none, .op .quiet (oMv (.val (.bool false))), []⟩])
   (.seq
    (.seq
     (.ops [⟨0, some 5, none, .op .quiet (oFieldAddr 0 (.tmp 1)), []⟩,
       ⟨1, some 6, none, .op .reads (oLoad (.tmp 5)), []⟩,
       ⟨2, some 7, none, .op .quiet (oArith .lss (.tmp 6) (.val (.int .i64 0))), []⟩,
       ⟨3, some 8, none, .op .quiet (oMv (.tmp 7)), []⟩,
       ⟨4, some 9, some (8, false), .op .quiet (oFieldAddr 0 (.tmp 1)), []⟩,
       ⟨5, some 10, some (8, false), .op .reads (oLoad (.tmp 9)), []⟩,
       ⟨6, some 11, some (8, false), .op .quiet (oArith .gtr (.tmp 10) (.val (.int .i64 1048576))), []⟩,
       ⟨7, some 12, none, .op .quiet (oPick (.tmp 8) (.val (.bool true)) (.tmp 11)), []⟩,
       ⟨8, some 13, none, .op .quiet (oMv (.tmp 12)), []⟩,
       ⟨9, some 14, some (13, false), .op .quiet (oFieldAddr 1 (.tmp 1)), []⟩,
       ⟨10, some 15, some (13, false), .op .reads (oLoad (.tmp 14)), []⟩,
       ⟨11, some 16, some (13, false), .op .reads (oLen .slice (.tmp 15)), []⟩,
       ⟨12, some 17, some (13, false), .op .quiet (oArith .gtr (.tmp 16) (.val (.int .i64 4194304))), []⟩,
       ⟨13, some 18, none, .op .quiet (oPick (.tmp 13) (.val (.bool true)) (.tmp 17)), []⟩])
     (.cond (.tmp 18)
      (.seq
       (.ops [⟨0, some 2, none, .op .quiet (oMv (.val (.bool false))), []⟩])
       (.ret))
      (.skip)))
    (.seq
     (.seq
      (.ops [⟨0, some 19, none, .op .quiet (oFieldAddr 1 (.tmp 1)), []⟩,
        ⟨1, some 20, none, .op .reads (oLoad (.tmp 19)), []⟩,
        ⟨2, some 21, none, .op .reads (oLen .slice (.tmp 20)), []⟩,
        ⟨3, some 22, none, .op .quiet (oMv (.val (.int .i64 0))), []⟩])
      (.block 0
       (.loop
        (.seq
         (.ops [⟨0, some 23, none, .op .quiet (oArith .lss (.tmp 22) (.tmp 21)), []⟩])
         (.seq
          (.cond (.tmp 23)
           (.skip)
           (.exit 0))
          (.seq
           (.block 1
            (.seq
             (.ops [⟨0, some 24, none, .op .quiet (oMv (.tmp 22)), []⟩,
               ⟨1, some 25, none, .op .quiet (oIdxS 2 (.tmp 20) (.tmp 22)), []⟩,
               ⟨2, some 26, none, .op .reads (oLoadN 2 (.tmp 25)), []⟩,
               ⟨3, some 4, none, .op .quiet (oAlloc [(.int .i64 0), (.int .i64 0)]), []⟩,
               ⟨4, some 3, none, .op .quiet (oMv (.tmp 24)), []⟩,
               ⟨5, none, none, .op .hard (oStore 2 (.tmp 4) (.tmp 26)), []⟩])
             (.seq
              (.drawn [⟨0, some 27, none, .op .quiet (oFieldAddr 0 (.tmp 4)), []⟩,
                ⟨1, some 28, none, .op .reads (oLoad (.tmp 27)), []⟩,
                ⟨2, some 29, none, .op .quiet (oArith .lss (.tmp 28) (.val (.int .i64 0))), []⟩,
                ⟨3, some 30, none, .op .quiet (oMv (.tmp 29)), []⟩,
                ⟨4, some 31, some (30, false), .op .quiet (oFieldAddr 0 (.tmp 4)), []⟩,
                ⟨5, some 32, some (30, false), .op .reads (oLoad (.tmp 31)), []⟩,
                ⟨6, some 33, some (30, false), .op .quiet (oFieldAddr 1 (.tmp 4)), []⟩,
                ⟨7, some 34, some (30, false), .op .reads (oLoad (.tmp 33)), []⟩,
                ⟨8, some 35, some (30, false), .op .quiet (oArith .geq (.tmp 32) (.tmp 34)), []⟩,
                ⟨9, some 36, none, .op .quiet (oPick (.tmp 30) (.val (.bool true)) (.tmp 35)), []⟩,
                ⟨10, some 37, none, .op .quiet (oMv (.tmp 36)), []⟩,
                ⟨11, some 38, some (37, false), .op .quiet (oFieldAddr 1 (.tmp 4)), []⟩,
                ⟨12, some 39, some (37, false), .op .reads (oLoad (.tmp 38)), []⟩,
                ⟨13, some 40, some (37, false), .op .quiet (oFieldAddr 0 (.tmp 1)), []⟩,
                ⟨14, some 41, some (37, false), .op .reads (oLoad (.tmp 40)), []⟩,
                ⟨15, some 42, some (37, false), .op .quiet (oArith .geq (.tmp 39) (.tmp 41)), []⟩,
                ⟨16, some 43, none, .op .quiet (oPick (.tmp 37) (.val (.bool true)) (.tmp 42)), []⟩,
                ⟨17, some 44, none, .op .quiet (oMv (.tmp 43)), []⟩,
                ⟨18, some 45, some (44, false), .op .quiet (oMv (.tmp 3)), []⟩,
                ⟨19, some 46, some (44, false), .op .quiet (oArith .gtr (.tmp 45) (.val (.int .i64 0))), []⟩,
                ⟨20, some 47, some (44, false), .op .quiet (oMv (.tmp 46)), []⟩,
                ⟨21, some 48, some (47, true), .op .quiet (oFieldAddr 1 (.tmp 1)), []⟩,
                ⟨22, some 49, some (47, true), .op .reads (oLoad (.tmp 48)), []⟩,
                ⟨23, some 50, some (47, true), .op .quiet (oMv (.tmp 3)), []⟩,
                ⟨24, some 51, some (47, true), .op .quiet (oArith .sub (.tmp 50) (.val (.int .i64 1))), []⟩,
                ⟨25, some 52, some (47, true), .op .quiet (oIdxS 2 (.tmp 49) (.tmp 51)), []⟩,
                ⟨26, some 53, some (47, true), .op .reads (oLoadN 2 (.tmp 52)), []⟩,
                ⟨27, some 54, some (47, true), .op .reads (oLoadN 2 (.tmp 4)), []⟩,
                ⟨28, some 55, some (47, true), .callF 154 [(.tmp 53), (.tmp 54)], []⟩,
                ⟨29, some 56, some (47, true), .op .quiet (oArith .geq (.tmp 55) (.val (.int .i64 0))), []⟩,
                ⟨30, some 57, some (44, false), .op .quiet (oPick (.tmp 47) (.tmp 56) (.val (.bool false))), []⟩,
                ⟨31, some 58, none, .op .quiet (oPick (.tmp 44) (.val (.bool true)) (.tmp 57)), []⟩])
              (.cond (.tmp 58)
               (.seq
                (.ops [⟨0, some 2, none, .op .quiet (oMv (.val (.bool false))), []⟩])
                (.ret))
               (.skip)))))
           (.ops [⟨0, some 59, none, .op .quiet (oArith .add (.tmp 22) (.val (.int .i64 1))), []⟩,
             ⟨1, some 22, none, .op .quiet (oMv (.tmp 59)), []⟩])))))))
     (.seq
      (.ops [⟨0, some 2, none, .op .quiet (oMv (.val (.bool true))), []⟩])
      (.ret)))))⟩
/-- (*tangram/csr.Adj).Degree -/
noncomputable def a93 : AF := ⟨[.tmp 4],
 (.seq
   (.ops [⟨0, some 4, none, .op .quiet (oMv (.val (.int .i64 0))), []⟩])
   (.seq
    (.ops [⟨0, some 5, none, .op .quiet (oMv (.tmp 0)), []⟩,
      ⟨1, some 6, none, .op .quiet (oMv (.tmp 1)), []⟩,
      ⟨2, some 7, none, .callF 155 [(.tmp 5), (.tmp 6)], []⟩,
      ⟨3, some 8, none, .op .reads (oLen .slice (.tmp 7)), []⟩,
      ⟨4, some 4, none, .op .quiet (oMv (.tmp 8)), []⟩])
    (.ret)))⟩
/-- (*tangram/csr.Adj).To -/
noncomputable def a98 : AF := ⟨[.tmp 4],
 (.seq
   (.ops [⟨0, some 4, none, .op .quiet (oMv (.val (.int .i64 0))), []⟩])
   (.seq
    (.seq
     (.ops [⟨0, some 5, none, .op .quiet (oMv (.tmp 0)), []⟩,
       ⟨1, some 6, none, .op .quiet (oMv (.tmp 1)), []⟩,
       ⟨2, some 7, none, .callF 158 [(.tmp 5), (.tmp 6)], []⟩,
       ⟨3, some 8, none, .op .quiet (oNot (.tmp 7)), []⟩])
     (.cond (.tmp 8)
      (.seq
       (.ops [⟨0, some 4, none, .op .quiet (oMv (.val (.int .i64 (-1)))), []⟩])
       (.ret))
      (.skip)))
    (.seq
     (.ops [⟨0, some 9, none, .op .quiet (oMv (.tmp 0)), []⟩,
       ⟨1, some 10, none, .op .quiet (oNilCheck (.tmp 9)), []⟩,
       ⟨2, some 11, none, .op .quiet (oFieldAddr 0 (.tmp 10)), []⟩,
       ⟨3, some 12, none, .op .reads (oLoad (.tmp 11)), []⟩,
       ⟨4, some 13, none, .op .quiet (oMv (.tmp 1)), []⟩,
       ⟨5, some 14, none, .op .quiet (oArith .xor (.tmp 13) (.val (.int .i64 1))), []⟩,
       ⟨6, some 15, none, .op .quiet (oIdxS 1 (.tmp 12) (.tmp 14)), []⟩,
       ⟨7, some 16, none, .op .reads (oLoad (.tmp 15)), []⟩,
       ⟨8, some 4, none, .op .quiet (oMv (.tmp 16)), []⟩])
     (.ret))))⟩
/-- tangram/dfs.Walk -/
noncomputable def a106 : AF := ⟨[.cellN 2 4, .tmp 3],
 (.seq
   (.ops [⟨0, some 1, none, .op .quiet (oBox (.tmp 0)), []⟩,
     ⟨1, some 2, none, .op .quiet (oAlloc [(.slice none 0 0), (.slice none 0 0), (.slice none 0 0), (.slice none 0 0)]), []⟩,
     ⟨2, some 3, none, .op .quiet (oMv (.val (.int .i64 0))), []⟩])
   (.seq
    (.ops [⟨0, some 14, none, .op .reads (oLoadN 2 (.tmp 1)), []⟩,
      ⟨1, some 15, none, .callF 88 [(.tmp 14)], []⟩,
      ⟨2, some 13, none, .op .quiet (oMv (.tmp 15)), []⟩,
      ⟨3, some 16, none, .op .quiet (oExtract 0 (.tmp 13)), []⟩,
      ⟨4, some 17, none, .op .quiet (oExtract 1 (.tmp 13)), []⟩,
      ⟨5, some 4, none, .op .quiet (oAlloc [(.pointer none)]), []⟩,
      ⟨6, none, none, .op .hard (oStore 1 (.tmp 4) (.tmp 16)), []⟩,
      ⟨7, some 5, none, .op .quiet (oMv (.tmp 17)), []⟩])
    (.seq
     (.seq
      (.ops [⟨0, some 18, none, .op .quiet (oMv (.tmp 5)), []⟩,
        ⟨1, some 19, none, .op .quiet (oArith .neq (.tmp 18) (.val (.int .i64 0))), []⟩])
      (.cond (.tmp 19)
       (.seq
        (.ops [⟨0, some 20, none, .op .quiet (oBuild [(.slice none 0 0), (.slice none 0 0), (.slice none 0 0), (.slice none 0 0)] [] []), []⟩,
          ⟨1, some 21, none, .op .quiet (oMv (.tmp 5)), []⟩,
          ⟨2, none, none, .op .hard (oStore 4 (.tmp 2) (.tmp 20)), []⟩,
          ⟨3, some 3, none, .op .quiet (oMv (.tmp 21)), []⟩])
        (.ret))
       (.skip)))
     (.seq
      (.drawn [⟨0, some 22, none, .op .quiet (oFieldAddr 0 (.tmp 1)), []⟩,
        ⟨1, some 23, none, .op .reads (oLoad (.tmp 22)), []⟩,
        ⟨3, some 25, none, .op .quiet (oFieldAddr 0 (.tmp 1)), []⟩,
        ⟨4, some 26, none, .op .reads (oLoad (.tmp 25)), []⟩,
        ⟨6, some 28, none, .op .reads (oLoad (.tmp 4)), []⟩,
        ⟨10, some 6, none, .op .quiet (oAlloc [(.slice none 0 0), (.slice none 0 0), (.slice none 0 0), (.slice none 0 0)]), []⟩,
        ⟨2, some 24, none, .callF 165 [(.tmp 23), (.val (.int .i64 (-1)))], [4, 6]⟩,
        ⟨5, some 27, none, .callF 165 [(.tmp 26), (.val (.int .i64 (-1)))], [6]⟩,
        ⟨7, some 29, none, .callF 166 [(.tmp 28)], []⟩,
        ⟨8, some 30, none, .callF 165 [(.tmp 29), (.val (.int .i64 (-1)))], []⟩,
        ⟨9, some 31, none, .op .quiet (oBuild [(.slice none 0 0), (.slice none 0 0), (.slice none 0 0), (.slice none 0 0)] [(0, 1), (1, 1), (3, 1)] [(.tmp 24), (.tmp 27), (.tmp 30)]), []⟩,
        ⟨11, none, none, .op .hard (oStore 4 (.tmp 6) (.tmp 31)), []⟩])
      (.seq
       (.ops [⟨0, some 7, none, .op .quiet (oAlloc [(.slice none 0 0)]), []⟩])
       (.seq
        (.ops [⟨0, some 32, none, .op .quiet (oClos 167 [] [(.tmp 6), (.tmp 7), (.tmp 4)]), []⟩,
          ⟨1, some 8, none, .op .quiet (oMv (.tmp 32)), []⟩])
        (.seq
         (.seq
          (.ops [⟨0, some 33, none, .op .quiet (oFieldAddr 0 (.tmp 1)), []⟩,
            ⟨1, some 34, none, .op .reads (oLoad (.tmp 33)), []⟩,
            ⟨2, some 35, none, .op .quiet (oMv (.val (.int .i64 0))), []⟩])
          (.block 0
           (.loop
            (.seq
             (.ops [⟨0, some 36, none, .op .quiet (oArith .lss (.tmp 35) (.tmp 34)), []⟩])
             (.seq
              (.cond (.tmp 36)
               (.skip)
               (.exit 0))
              (.seq
               (.block 1
                (.seq
                 (.ops [⟨0, some 37, none, .op .quiet (oMv (.tmp 35)), []⟩,
                   ⟨1, some 9, none, .op .quiet (oMv (.tmp 37)), []⟩])
                 (.seq
                  (.seq
                   (.ops [⟨0, some 38, none, .op .quiet (oFieldAddr 1 (.tmp 6)), []⟩,
                     ⟨1, some 39, none, .op .reads (oLoad (.tmp 38)), []⟩,
                     ⟨2, some 40, none, .op .quiet (oMv (.tmp 9)), []⟩,
                     ⟨3, some 41, none, .op .quiet (oIdxS 1 (.tmp 39) (.tmp 40)), []⟩,
                     ⟨4, some 42, none, .op .reads (oLoad (.tmp 41)), []⟩,
                     ⟨5, some 43, none, .op .quiet (oArith .geq (.tmp 42) (.val (.int .i64 0))), []⟩])
                   (.cond (.tmp 43)
                    (.exit 1)
                    (.skip)))
                  (.seq
                   (.ops [⟨0, some 44, none, .op .quiet (oMv (.tmp 8)), []⟩,
                     ⟨1, some 45, none, .op .quiet (oMv (.tmp 9)), []⟩,
                     ⟨2, some 46, none, .call (.tmp 44) [(.tmp 45), (.val (.int .i64 (-1))), (.val (.int .i64 0))], []⟩])
                   (.block 2
                    (.loop
                     (.seq
                      (.seq
                       (.ops [⟨0, some 47, none, .callF 170 [(.tmp 7)], []⟩])
                       (.cond (.tmp 47)
                        (.skip)
                        (.exit 2)))
                      (.block 3
                       (.seq
                        (.ops [⟨0, some 48, none, .callF 171 [(.tmp 7)], []⟩,
                          ⟨1, some 10, none, .op .quiet (oMv (.tmp 48)), []⟩])
                        (.seq
                         (.ops [⟨0, some 49, none, .op .quiet (oMv (.tmp 10)), []⟩,
                           ⟨1, some 50, none, .op .quiet (oNilCheck (.tmp 49)), []⟩,
                           ⟨2, some 51, none, .op .quiet (oFieldAddr 1 (.tmp 50)), []⟩,
                           ⟨3, some 52, none, .op .reads (oLoad (.tmp 51)), []⟩,
                           ⟨4, some 11, none, .op .quiet (oMv (.tmp 52)), []⟩])
                         (.seq
                          (.seq
                           (.ops [⟨0, some 53, none, .op .quiet (oMv (.tmp 11)), []⟩,
                             ⟨1, some 54, none, .op .quiet (oArith .lss (.tmp 53) (.val (.int .i64 0))), []⟩])
                           (.cond (.tmp 54)
                            (.seq
                             (.ops [⟨0, some 55, none, .callF 172 [(.tmp 7)], []⟩])
                             (.exit 3))
                            (.skip)))
                          (.seq
                           (.ops [⟨0, some 56, none, .op .quiet (oMv (.tmp 10)), []⟩,
                             ⟨1, some 57, none, .op .reads (oLoad (.tmp 4)), []⟩,
                             ⟨2, some 58, none, .op .quiet (oMv (.tmp 11)), []⟩,
                             ⟨3, some 59, none, .callF 173 [(.tmp 57), (.tmp 58)], []⟩,
                             ⟨4, some 60, none, .op .quiet (oNilCheck (.tmp 56)), []⟩,
                             ⟨5, some 61, none, .op .quiet (oFieldAddr 1 (.tmp 60)), []⟩,
                             ⟨6, none, none, .op .hard (oStore 1 (.tmp 61) (.tmp 59)), []⟩])
                           (.seq
                            (.seq
                             (.ops [⟨0, some 62, none, .op .quiet (oFieldAddr 3 (.tmp 6)), []⟩,
                               ⟨1, some 63, none, .op .reads (oLoad (.tmp 62)), []⟩,
                               ⟨2, some 64, none, .op .quiet (oMv (.tmp 11)), []⟩,
                               ⟨3, some 65, none, .op .quiet (oArith .quo (.tmp 64) (.val (.int .i64 2))), []⟩,
                               ⟨4, some 66, none, .op .quiet (oIdxS 1 (.tmp 63) (.tmp 65)), []⟩,
                               ⟨5, some 67, none, .op .reads (oLoad (.tmp 66)), []⟩,
                               ⟨6, some 68, none, .op .quiet (oArith .geq (.tmp 67) (.val (.int .i64 0))), []⟩])
                             (.cond (.tmp 68)
                              (.exit 3)
                              (.skip)))
                            (.seq
                             (.ops [⟨0, some 69, none, .op .quiet (oFieldAddr 3 (.tmp 6)), []⟩,
                               ⟨1, some 70, none, .op .reads (oLoad (.tmp 69)), []⟩,
                               ⟨2, some 71, none, .op .quiet (oMv (.tmp 11)), []⟩,
                               ⟨3, some 72, none, .op .quiet (oArith .quo (.tmp 71) (.val (.int .i64 2))), []⟩,
                               ⟨4, some 73, none, .op .quiet (oMv (.tmp 11)), []⟩,
                               ⟨5, some 74, none, .op .quiet (oIdxS 1 (.tmp 70) (.tmp 72)), []⟩,
                               ⟨6, none, none, .op .hard (oStore 1 (.tmp 74) (.tmp 73)), []⟩])
                             (.seq
                              (.ops [⟨0, some 75, none, .op .reads (oLoad (.tmp 4)), []⟩,
                                ⟨1, some 76, none, .op .quiet (oMv (.tmp 11)), []⟩,
                                ⟨2, some 77, none, .callF 98 [(.tmp 75), (.tmp 76)], []⟩,
                                ⟨3, some 12, none, .op .quiet (oMv (.tmp 77)), []⟩])
                              (.seq
                               (.ops [⟨0, some 78, none, .op .quiet (oFieldAddr 1 (.tmp 6)), []⟩,
                                 ⟨1, some 79, none, .op .reads (oLoad (.tmp 78)), []⟩,
                                 ⟨2, some 80, none, .op .quiet (oMv (.tmp 12)), []⟩,
                                 ⟨3, some 81, none, .op .quiet (oIdxS 1 (.tmp 79) (.tmp 80)), []⟩,
                                 ⟨4, some 82, none, .op .reads (oLoad (.tmp 81)), []⟩,
                                 ⟨5, some 83, none, .op .quiet (oArith .lss (.tmp 82) (.val (.int .i64 0))), []⟩])
                               (.cond (.tmp 83)
                                (.drawn [⟨0, some 84, none, .op .quiet (oMv (.tmp 8)), []⟩,
                                  ⟨1, some 85, none, .op .quiet (oMv (.tmp 12)), []⟩,
                                  ⟨2, some 86, none, .op .quiet (oMv (.tmp 11)), []⟩,
                                  ⟨3, some 87, none, .op .quiet (oFieldAddr 1 (.tmp 6)), []⟩,
                                  ⟨4, some 88, none, .op .reads (oLoad (.tmp 87)), []⟩,
                                  ⟨5, some 89, none, .op .quiet (oMv (.tmp 10)), []⟩,
                                  ⟨6, some 90, none, .op .quiet (oNilCheck (.tmp 89)), []⟩,
                                  ⟨7, some 91, none, .op .quiet (oFieldAddr 0 (.tmp 90)), []⟩,
                                  ⟨8, some 92, none, .op .reads (oLoad (.tmp 91)), []⟩,
                                  ⟨9, some 93, none, .op .quiet (oIdxS 1 (.tmp 88) (.tmp 92)), []⟩,
                                  ⟨10, some 94, none, .op .reads (oLoad (.tmp 93)), []⟩,
                                  ⟨11, some 95, none, .op .quiet (oArith .add (.tmp 94) (.val (.int .i64 1))), []⟩,
                                  ⟨12, some 96, none, .call (.tmp 84) [(.tmp 85), (.tmp 86), (.tmp 95)], []⟩])
                                (.skip))))))))))))))))))
               (.ops [⟨0, some 97, none, .op .quiet (oArith .add (.tmp 35) (.val (.int .i64 1))), []⟩,
                 ⟨1, some 35, none, .op .quiet (oMv (.tmp 97)), []⟩])))))))
         (.seq
          (.ops [⟨0, some 98, none, .op .reads (oLoadN 4 (.tmp 6)), []⟩,
            ⟨1, none, none, .op .hard (oStore 4 (.tmp 2) (.tmp 98)), []⟩,
            ⟨2, some 3, none, .op .quiet (oMv (.val (.int .i64 0))), []⟩])
          (.ret)))))))))⟩
/-- tangram/embed.rotation -/
noncomputable def a108 : AF := ⟨[.tmp 6, .tmp 7],
 (.seq
   (.ops [⟨0, some 3, none, .op .quiet (oBox (.tmp 0)), []⟩,
     ⟨1, some 4, none, .op .quiet (oBox (.tmp 1)), []⟩,
     ⟨2, some 6, none, .op .quiet (oMv (.val (.slice none 0 0))), []⟩,
     ⟨3, some 7, none, .op .quiet (oMv (.val (.int .i64 0))), []⟩])
   (.seq
    (.ops [⟨0, some 20, none, .op .reads (oLoadN 2 (.tmp 3)), []⟩,
      ⟨1, some 21, none, .op .reads (oLoadN 4 (.tmp 4)), []⟩,
      ⟨2, some 22, none, .callF 113 [(.tmp 20), (.tmp 21)], []⟩,
      ⟨3, some 19, none, .op .quiet (oMv (.tmp 22)), []⟩,
      ⟨4, some 23, none, .op .quiet (oExtract 0 (.tmp 19)), []⟩,
      ⟨5, some 24, none, .op .quiet (oExtract 1 (.tmp 19)), []⟩,
      ⟨6, some 8, none, .op .quiet (oAlloc [(.slice none 0 0), (.slice none 0 0), (.slice none 0 0), (.slice none 0 0)]), []⟩,
      ⟨7, none, none, .op .hard (oStore 4 (.tmp 8) (.tmp 23)), []⟩,
      ⟨8, some 9, none, .op .quiet (oMv (.tmp 24)), []⟩])
    (.seq
     (.seq
      (.ops [⟨0, some 25, none, .op .quiet (oMv (.tmp 9)), []⟩,
        ⟨1, some 26, none, .op .quiet (oArith .neq (.tmp 25) (.val (.int .i64 0))), []⟩])
      (.cond (.tmp 26)
       (.seq
        (.ops [⟨0, some 27, none, .op .quiet (oMv (.tmp 9)), []⟩,
          ⟨1, some 6, none, .op .quiet (oMv (.val (.slice none 0 0))), []⟩,
          ⟨2, some 7, none, .op .quiet (oMv (.tmp 27)), []⟩])
        (.ret))
       (.skip)))
     (.seq
      (.ops [⟨0, some 28, none, .op .quiet (oFieldAddr 1 (.tmp 3)), []⟩,
        ⟨1, some 29, none, .op .reads (oLoad (.tmp 28)), []⟩,
        ⟨2, some 30, none, .op .reads (oLen .slice (.tmp 29)), []⟩,
        ⟨3, some 31, none, .op .quiet (oArith .mul (.val (.int .i64 2)) (.tmp 30)), []⟩,
        ⟨4, some 10, none, .op .quiet (oMv (.tmp 31)), []⟩])
      (.seq
       (.drawn [⟨0, some 32, none, .op .reads (oLoadN 2 (.tmp 3)), []⟩,
         ⟨1, some 33, none, .op .reads (oLoadN 4 (.tmp 4)), []⟩,
         ⟨2, some 34, none, .op .quiet (oMv (.tmp 10)), []⟩,
         ⟨3, some 35, none, .op .quiet (oMkSlice 1 8 [(.int .i64 0)] (.tmp 34) (.tmp 34)), []⟩,
         ⟨4, some 36, none, .op .quiet (oMv (.tmp 10)), []⟩,
         ⟨5, some 37, none, .op .quiet (oMkSlice 1 8 [(.int .i64 0)] (.tmp 36) (.tmp 36)), []⟩,
         ⟨6, some 38, none, .op .quiet (oFieldAddr 0 (.tmp 3)), []⟩,
         ⟨7, some 39, none, .op .reads (oLoad (.tmp 38)), []⟩,
         ⟨8, some 40, none, .op .quiet (oMkSlice 1 8 [(.int .i64 0)] (.tmp 39) (.tmp 39)), []⟩,
         ⟨9, some 41, none, .op .quiet (oFieldAddr 0 (.tmp 3)), []⟩,
         ⟨10, some 42, none, .op .reads (oLoad (.tmp 41)), []⟩,
         ⟨11, some 43, none, .op .quiet (oMkSlice 1 8 [(.int .i64 0)] (.tmp 42) (.tmp 42)), []⟩,
         ⟨12, some 44, none, .op .quiet (oFieldAddr 0 (.tmp 3)), []⟩,
         ⟨13, some 45, none, .op .reads (oLoad (.tmp 44)), []⟩,
         ⟨14, some 46, none, .op .quiet (oMkSlice 1 8 [(.int .i64 0)] (.tmp 45) (.tmp 45)), []⟩,
         ⟨15, some 47, none, .op .quiet (oBuild [(.int .i64 0), (.slice none 0 0), (.slice none 0 0), (.slice none 0 0), (.slice none 0 0), (.slice none 0 0), (.slice none 0 0), (.slice none 0 0), (.slice none 0 0), (.slice none 0 0), (.slice none 0 0)] [(0, 2), (2, 4), (6, 1), (7, 1), (8, 1), (9, 1), (10, 1)] [(.tmp 32), (.tmp 33), (.tmp 35), (.tmp 37), (.tmp 40), (.tmp 43), (.tmp 46)]), []⟩,
         ⟨16, some 48, none, .op .quiet (oBox (.tmp 47)), []⟩,
         ⟨17, some 11, none, .op .quiet (oMv (.tmp 48)), []⟩])
       (.seq
        (.ops [⟨0, some 49, none, .op .reads (oLoadN 2 (.tmp 3)), []⟩,
          ⟨1, some 50, none, .op .reads (oLoadN 4 (.tmp 4)), []⟩,
          ⟨2, some 51, none, .op .quiet (oMv (.tmp 2)), []⟩,
          ⟨3, some 52, none, .callF 179 [(.tmp 49), (.tmp 50), (.tmp 51)], []⟩,
          ⟨4, some 12, none, .op .quiet (oMv (.tmp 52)), []⟩])
        (.seq
         (.ops [⟨0, some 53, none, .op .quiet (oFieldAddr 0 (.tmp 3)), []⟩,
           ⟨1, some 54, none, .op .reads (oLoad (.tmp 53)), []⟩,
           ⟨2, some 55, none, .op .quiet (oMkSlice 1 24 [(.slice none 0 0)] (.tmp 54) (.tmp 54)), []⟩,
           ⟨3, some 13, none, .op .quiet (oMv (.tmp 55)), []⟩])
         (.seq
          (.seq
           (.ops [⟨0, some 56, none, .op .quiet (oFieldAddr 0 (.tmp 3)), []⟩,
             ⟨1, some 57, none, .op .reads (oLoad (.tmp 56)), []⟩,
             ⟨2, some 58, none, .op .quiet (oMv (.val (.int .i64 0))), []⟩])
           (.block 0
            (.loop
             (.seq
              (.ops [⟨0, some 59, none, .op .quiet (oArith .lss (.tmp 58) (.tmp 57)), []⟩])
              (.seq
               (.cond (.tmp 59)
                (.skip)
                (.exit 0))
               (.seq
                (.block 1
                 (.seq
                  (.ops [⟨0, some 60, none, .op .quiet (oMv (.tmp 58)), []⟩,
                    ⟨1, some 14, none, .op .quiet (oMv (.tmp 60)), []⟩])
                  (.seq
                   (.ops [⟨0, some 61, none, .op .quiet (oMv (.tmp 11)), []⟩,
                     ⟨1, some 62, none, .op .quiet (oNilCheck (.tmp 61)), []⟩,
                     ⟨2, some 63, none, .op .quiet (oFieldAddr 8 (.tmp 62)), []⟩,
                     ⟨3, some 64, none, .op .reads (oLoad (.tmp 63)), []⟩,
                     ⟨4, some 65, none, .op .quiet (oMv (.tmp 14)), []⟩,
                     ⟨5, some 66, none, .op .quiet (oIdxS 1 (.tmp 64) (.tmp 65)), []⟩,
                     ⟨6, none, none, .op .hard (oStore 1 (.tmp 66) (.val (.int .i64 (-1)))), []⟩])
                   (.seq
                    (.seq
                     (.ops [⟨0, some 67, none, .op .quiet (oFieldAddr 0 (.tmp 4)), []⟩,
                       ⟨1, some 68, none, .op .reads (oLoad (.tmp 67)), []⟩,
                       ⟨2, some 69, none, .op .quiet (oMv (.tmp 14)), []⟩,
                       ⟨3, some 70, none, .op .quiet (oIdxS 1 (.tmp 68) (.tmp 69)), []⟩,
                       ⟨4, some 71, none, .op .reads (oLoad (.tmp 70)), []⟩,
                       ⟨5, some 72, none, .op .quiet (oArith .geq (.tmp 71) (.val (.int .i64 0))), []⟩])
                     (.cond (.tmp 72)
                      (.ops [⟨0, some 73, none, .op .quiet (oMv (.tmp 11)), []⟩,
                        ⟨1, some 74, none, .op .quiet (oMv (.tmp 14)), []⟩,
                        ⟨2, some 75, none, .op .quiet (oFieldAddr 0 (.tmp 4)), []⟩,
                        ⟨3, some 76, none, .op .reads (oLoad (.tmp 75)), []⟩,
                        ⟨4, some 77, none, .op .quiet (oMv (.tmp 14)), []⟩,
                        ⟨5, some 78, none, .op .quiet (oIdxS 1 (.tmp 76) (.tmp 77)), []⟩,
                        ⟨6, some 79, none, .op .reads (oLoad (.tmp 78)), []⟩,
                        ⟨7, some 80, none, .op .quiet (oArith .xor (.tmp 79) (.val (.int .i64 1))), []⟩,
                        ⟨8, some 81, none, .callF 180 [(.tmp 73), (.tmp 74), (.tmp 80)], []⟩])
                      (.skip)))
                    (.seq
                     (.ops [⟨0, some 82, none, .op .quiet (oMv (.tmp 13)), []⟩,
                       ⟨1, some 83, none, .op .quiet (oMv (.tmp 14)), []⟩,
                       ⟨2, some 84, none, .op .quiet (oFieldAddr 3 (.tmp 8)), []⟩,
                       ⟨3, some 85, none, .op .reads (oLoad (.tmp 84)), []⟩,
                       ⟨4, some 86, none, .op .quiet (oMv (.tmp 14)), []⟩,
                       ⟨5, some 87, none, .op .quiet (oIdxS 1 (.tmp 85) (.tmp 86)), []⟩,
                       ⟨6, some 88, none, .op .reads (oLoad (.tmp 87)), []⟩,
                       ⟨7, some 89, none, .op .quiet (oMv (.tmp 12)), []⟩,
                       ⟨8, some 90, none, .callF 181 [(.tmp 88), (.tmp 89)], []⟩,
                       ⟨9, some 91, none, .op .quiet (oIdxS 1 (.tmp 82) (.tmp 83)), []⟩,
                       ⟨10, none, none, .op .hard (oStore 1 (.tmp 91) (.tmp 90)), []⟩])
                     (.seq
                      (.ops [⟨0, some 92, none, .op .quiet (oMv (.tmp 13)), []⟩,
                        ⟨1, some 93, none, .op .quiet (oMv (.tmp 14)), []⟩,
                        ⟨2, some 94, none, .op .quiet (oIdxS 1 (.tmp 92) (.tmp 93)), []⟩,
                        ⟨3, some 95, none, .op .reads (oLoad (.tmp 94)), []⟩,
                        ⟨4, some 96, none, .op .reads (oLen .slice (.tmp 95)), []⟩,
                        ⟨5, some 97, none, .op .quiet (oMv (.val (.int .i64 0))), []⟩])
                      (.block 2
                       (.loop
                        (.seq
                         (.ops [⟨0, some 98, none, .op .quiet (oArith .lss (.tmp 97) (.tmp 96)), []⟩])
                         (.seq
                          (.cond (.tmp 98)
                           (.skip)
                           (.exit 2))
                          (.seq
                           (.block 3
                            (.seq
                             (.ops [⟨0, some 99, none, .op .quiet (oIdxS 1 (.tmp 95) (.tmp 97)), []⟩,
                               ⟨1, some 100, none, .op .reads (oLoad (.tmp 99)), []⟩,
                               ⟨2, some 16, none, .op .quiet (oMv (.tmp 100)), []⟩])
                             (.ops [⟨0, some 101, none, .op .quiet (oMv (.tmp 11)), []⟩,
                               ⟨1, some 102, none, .op .quiet (oMv (.tmp 14)), []⟩,
                               ⟨2, some 103, none, .op .quiet (oMv (.tmp 16)), []⟩,
                               ⟨3, some 104, none, .callF 182 [(.tmp 101), (.tmp 102), (.tmp 103)], []⟩])))
                           (.ops [⟨0, some 105, none, .op .quiet (oArith .add (.tmp 97) (.val (.int .i64 1))), []⟩,
                             ⟨1, some 97, none, .op .quiet (oMv (.tmp 105)), []⟩]))))))))))))
                (.ops [⟨0, some 106, none, .op .quiet (oArith .add (.tmp 58) (.val (.int .i64 1))), []⟩,
                  ⟨1, some 58, none, .op .quiet (oMv (.tmp 106)), []⟩])))))))
          (.seq
           (.ops [⟨0, some 107, none, .op .quiet (oMv (.tmp 11)), []⟩,
             ⟨1, some 108, none, .op .quiet (oMv (.tmp 13)), []⟩,
             ⟨2, some 109, none, .op .quiet (oMv (.tmp 12)), []⟩,
             ⟨3, some 110, none, .callF 183 [(.tmp 107), (.tmp 108), (.tmp 109)], []⟩])
           (.seq
            (.ops [⟨0, some 111, none, .op .quiet (oFieldAddr 0 (.tmp 3)), []⟩,
              ⟨1, some 112, none, .op .reads (oLoad (.tmp 111)), []⟩,
              ⟨2, some 113, none, .op .quiet (oMkSlice 1 24 [(.slice none 0 0)] (.tmp 112) (.tmp 112)), []⟩,
              ⟨3, some 17, none, .op .quiet (oMv (.tmp 113)), []⟩])
            (.seq
             (.seq
              (.ops [⟨0, some 114, none, .op .quiet (oMv (.tmp 17)), []⟩,
                ⟨1, some 115, none, .op .reads (oLen .slice (.tmp 114)), []⟩,
                ⟨2, some 116, none, .op .quiet (oMv (.val (.int .i64 0))), []⟩])
              (.block 4
               (.loop
                (.seq
                 (.ops [⟨0, some 117, none, .op .quiet (oArith .lss (.tmp 116) (.tmp 115)), []⟩])
                 (.seq
                  (.cond (.tmp 117)
                   (.skip)
                   (.exit 4))
                  (.seq
                   (.block 5
                    (.seq
                     (.ops [⟨0, some 118, none, .op .quiet (oMv (.tmp 116)), []⟩,
                       ⟨1, some 18, none, .op .quiet (oMv (.tmp 118)), []⟩])
                     (.ops [⟨0, some 119, none, .op .quiet (oMv (.tmp 17)), []⟩,
                       ⟨1, some 120, none, .op .quiet (oMv (.tmp 18)), []⟩,
                       ⟨2, some 121, none, .op .quiet (oMv (.tmp 11)), []⟩,
                       ⟨3, some 122, none, .op .quiet (oMv (.tmp 18)), []⟩,
                       ⟨4, some 123, none, .callF 184 [(.tmp 121), (.tmp 122)], []⟩,
                       ⟨5, some 124, none, .op .quiet (oIdxS 1 (.tmp 119) (.tmp 120)), []⟩,
                       ⟨6, none, none, .op .hard (oStore 1 (.tmp 124) (.tmp 123)), []⟩])))
                   (.ops [⟨0, some 125, none, .op .quiet (oArith .add (.tmp 116) (.val (.int .i64 1))), []⟩,
                     ⟨1, some 116, none, .op .quiet (oMv (.tmp 125)), []⟩])))))))
             (.seq
              (.ops [⟨0, some 126, none, .op .quiet (oMv (.tmp 17)), []⟩,
                ⟨1, some 6, none, .op .quiet (oMv (.tmp 126)), []⟩,
                ⟨2, some 7, none, .op .quiet (oMv (.val (.int .i64 0))), []⟩])
              (.ret)))))))))))))⟩
/-- tangram/low.Of -/
noncomputable def a113 : AF := ⟨[.cellN 4 4, .tmp 5],
 (.seq
   (.ops [⟨0, some 2, none, .op .quiet (oBox (.tmp 0)), []⟩,
     ⟨1, some 3, none, .op .quiet (oBox (.tmp 1)), []⟩,
     ⟨2, some 4, none, .op .quiet (oAlloc [(.slice none 0 0), (.slice none 0 0), (.slice none 0 0), (.slice none 0 0)]), []⟩,
     ⟨3, some 5, none, .op .quiet (oMv (.val (.int .i64 0))), []⟩])
   (.seq
    (.seq
     (.ops [⟨0, some 32, none, .op .reads (oLoadN 2 (.tmp 2)), []⟩,
       ⟨1, some 33, none, .op .reads (oLoadN 4 (.tmp 3)), []⟩,
       ⟨2, some 34, none, .callF 192 [(.tmp 32), (.tmp 33)], []⟩,
       ⟨3, some 6, none, .op .quiet (oMv (.tmp 34)), []⟩])
     (.seq
      (.ops [⟨0, some 35, none, .op .quiet (oMv (.tmp 6)), []⟩,
        ⟨1, some 36, none, .op .quiet (oArith .neq (.tmp 35) (.val (.int .i64 0))), []⟩])
      (.cond (.tmp 36)
       (.seq
        (.ops [⟨0, some 37, none, .op .quiet (oBuild [(.slice none 0 0), (.slice none 0 0), (.slice none 0 0), (.slice none 0 0)] [] []), []⟩,
          ⟨1, some 38, none, .op .quiet (oMv (.tmp 6)), []⟩,
          ⟨2, none, none, .op .hard (oStore 4 (.tmp 4) (.tmp 37)), []⟩,
          ⟨3, some 5, none, .op .quiet (oMv (.tmp 38)), []⟩])
        (.ret))
       (.skip))))
    (.seq
     (.ops [⟨0, some 39, none, .op .quiet (oFieldAddr 1 (.tmp 2)), []⟩,
       ⟨1, some 40, none, .op .reads (oLoad (.tmp 39)), []⟩,
       ⟨2, some 41, none, .op .reads (oLen .slice (.tmp 40)), []⟩,
       ⟨3, some 7, none, .op .quiet (oMv (.tmp 41)), []⟩])
     (.seq
      (.drawn [⟨0, some 42, none, .op .quiet (oMv (.tmp 7)), []⟩,
        ⟨1, some 43, none, .op .quiet (oMkSlice 1 8 [(.int .i64 0)] (.tmp 42) (.tmp 42)), []⟩,
        ⟨2, some 44, none, .op .quiet (oMv (.tmp 7)), []⟩,
        ⟨3, some 45, none, .op .quiet (oMkSlice 1 8 [(.int .i64 0)] (.tmp 44) (.tmp 44)), []⟩,
        ⟨4, some 9, none, .op .quiet (oAlloc [(.slice none 0 0)]), []⟩,
        ⟨5, some 8, none, .op .quiet (oMv (.tmp 43)), []⟩,
        ⟨6, none, none, .op .hard (oStore 1 (.tmp 9) (.tmp 45)), []⟩])
      (.seq
       (.ops [⟨0, some 46, none, .op .quiet (oFieldAddr 0 (.tmp 2)), []⟩,
         ⟨1, some 47, none, .op .reads (oLoad (.tmp 46)), []⟩,
         ⟨2, some 48, none, .op .quiet (oMkSlice 1 24 [(.slice none 0 0)] (.tmp 47) (.tmp 47)), []⟩,
         ⟨3, some 10, none, .op .quiet (oAlloc [(.slice none 0 0)]), []⟩,
         ⟨4, none, none, .op .hard (oStore 1 (.tmp 10) (.tmp 48)), []⟩])
       (.seq
        (.seq
         (.ops [⟨0, some 49, none, .op .quiet (oMv (.tmp 7)), []⟩,
           ⟨1, some 50, none, .op .quiet (oMv (.val (.int .i64 0))), []⟩])
         (.block 0
          (.loop
           (.seq
            (.ops [⟨0, some 51, none, .op .quiet (oArith .lss (.tmp 50) (.tmp 49)), []⟩])
            (.seq
             (.cond (.tmp 51)
              (.skip)
              (.exit 0))
             (.seq
              (.block 1
               (.seq
                (.ops [⟨0, some 52, none, .op .quiet (oMv (.tmp 50)), []⟩,
                  ⟨1, some 11, none, .op .quiet (oMv (.tmp 52)), []⟩])
                (.seq
                 (.drawn [⟨0, some 54, none, .op .quiet (oMv (.tmp 8)), []⟩,
                   ⟨1, some 55, none, .op .quiet (oMv (.tmp 11)), []⟩,
                   ⟨2, some 56, none, .op .reads (oLoad (.tmp 9)), []⟩,
                   ⟨3, some 57, none, .op .quiet (oMv (.tmp 11)), []⟩,
                   ⟨4, some 58, none, .op .reads (oLoadN 2 (.tmp 2)), []⟩,
                   ⟨5, some 59, none, .op .reads (oLoadN 4 (.tmp 3)), []⟩,
                   ⟨6, some 60, none, .op .quiet (oMv (.tmp 11)), []⟩,
                   ⟨7, some 61, none, .callF 193 [(.tmp 58), (.tmp 59), (.tmp 60)], [2]⟩,
                   ⟨8, some 53, none, .op .quiet (oMv (.tmp 61)), []⟩,
                   ⟨9, some 62, none, .op .quiet (oExtract 0 (.tmp 53)), []⟩,
                   ⟨10, some 63, none, .op .quiet (oExtract 1 (.tmp 53)), []⟩,
                   ⟨11, some 64, none, .op .quiet (oIdxS 1 (.tmp 54) (.tmp 55)), []⟩,
                   ⟨12, none, none, .op .hard (oStore 1 (.tmp 64) (.tmp 62)), [2]⟩,
                   ⟨13, some 65, none, .op .quiet (oIdxS 1 (.tmp 56) (.tmp 57)), []⟩,
                   ⟨14, none, none, .op .hard (oStore 1 (.tmp 65) (.tmp 63)), []⟩])
                 (.drawn [⟨0, some 66, none, .op .reads (oLoad (.tmp 10)), []⟩,
                   ⟨1, some 67, none, .op .quiet (oMv (.tmp 8)), []⟩,
                   ⟨2, some 68, none, .op .quiet (oMv (.tmp 11)), []⟩,
                   ⟨3, some 69, none, .op .quiet (oIdxS 1 (.tmp 67) (.tmp 68)), []⟩,
                   ⟨4, some 70, none, .op .reads (oLoad (.tmp 69)), []⟩,
                   ⟨5, some 71, none, .op .reads (oLoad (.tmp 10)), []⟩,
                   ⟨6, some 72, none, .op .quiet (oMv (.tmp 8)), []⟩,
                   ⟨7, some 73, none, .op .quiet (oMv (.tmp 11)), []⟩,
                   ⟨8, some 74, none, .op .quiet (oIdxS 1 (.tmp 72) (.tmp 73)), []⟩,
                   ⟨9, some 75, none, .op .reads (oLoad (.tmp 74)), []⟩,
                   ⟨10, some 76, none, .op .quiet (oIdxS 1 (.tmp 71) (.tmp 75)), []⟩,
                   ⟨11, some 77, none, .op .reads (oLoad (.tmp 76)), []⟩,
                   ⟨12, some 78, none, .op .quiet (oFieldAddr 3 (.tmp 3)), []⟩,
                   ⟨13, some 79, none, .op .reads (oLoad (.tmp 78)), []⟩,
                   ⟨14, some 80, none, .op .quiet (oMv (.tmp 11)), []⟩,
                   ⟨15, some 81, none, .op .quiet (oIdxS 1 (.tmp 79) (.tmp 80)), []⟩,
                   ⟨16, some 82, none, .op .reads (oLoad (.tmp 81)), []⟩,
                   ⟨17, some 83, none, .op .quiet (oBuildSlice 1 1 [(.int .i64 0)] [(0, 1)] [(.tmp 82)]), []⟩,
                   ⟨18, some 84, none, .op .hard (oAppend 1 8 (.tmp 77) (.tmp 83)), [0, 4]⟩,
                   ⟨19, some 85, none, .op .quiet (oIdxS 1 (.tmp 66) (.tmp 70)), []⟩,
                   ⟨20, none, none, .op .hard (oStore 1 (.tmp 85) (.tmp 84)), []⟩]))))
              (.ops [⟨0, some 86, none, .op .quiet (oArith .add (.tmp 50) (.val (.int .i64 1))), []⟩,
                ⟨1, some 50, none, .op .quiet (oMv (.tmp 86)), []⟩])))))))
        (.seq
         (.drawn [⟨0, some 87, none, .op .quiet (oFieldAddr 0 (.tmp 2)), []⟩,
           ⟨1, some 88, none, .op .reads (oLoad (.tmp 87)), []⟩,
           ⟨2, some 89, none, .op .quiet (oMkSlice 1 8 [(.int .i64 0)] (.tmp 88) (.tmp 88)), []⟩,
           ⟨3, some 90, none, .op .quiet (oFieldAddr 0 (.tmp 2)), []⟩,
           ⟨4, some 91, none, .op .reads (oLoad (.tmp 90)), []⟩,
           ⟨5, some 92, none, .op .quiet (oMkSlice 1 8 [(.int .i64 0)] (.tmp 91) (.tmp 91)), []⟩,
           ⟨6, some 12, none, .op .quiet (oAlloc [(.slice none 0 0)]), []⟩,
           ⟨7, some 13, none, .op .quiet (oAlloc [(.slice none 0 0)]), []⟩,
           ⟨8, none, none, .op .hard (oStore 1 (.tmp 12) (.tmp 89)), [4]⟩,
           ⟨9, none, none, .op .hard (oStore 1 (.tmp 13) (.tmp 92)), []⟩])
         (.seq
          (.seq
           (.ops [⟨0, some 93, none, .op .quiet (oFieldAddr 2 (.tmp 3)), []⟩,
             ⟨1, some 94, none, .op .reads (oLoad (.tmp 93)), []⟩,
             ⟨2, some 95, none, .callF 194 [(.tmp 94)], []⟩])
           (.block 2
            (.range (.tmp 95) 113095)))
          (.seq
           (.drawn [⟨0, some 154, none, .op .quiet (oMv (.tmp 7)), []⟩,
             ⟨1, some 155, none, .op .quiet (oMkSlice 1 8 [(.int .i64 0)] (.tmp 154) (.tmp 154)), []⟩,
             ⟨2, some 156, none, .op .quiet (oMv (.tmp 7)), []⟩,
             ⟨3, some 157, none, .op .quiet (oMkSlice 1 8 [(.int .i64 0)] (.tmp 156) (.tmp 156)), []⟩,
             ⟨4, some 158, none, .op .quiet (oMv (.tmp 7)), []⟩,
             ⟨5, some 159, none, .op .quiet (oMkSlice 1 8 [(.int .i64 0)] (.tmp 158) (.tmp 158)), []⟩,
             ⟨6, some 160, none, .op .quiet (oFieldAddr 0 (.tmp 2)), []⟩,
             ⟨7, some 161, none, .op .reads (oLoad (.tmp 160)), []⟩,
             ⟨8, some 162, none, .op .quiet (oMkSlice 1 24 [(.slice none 0 0)] (.tmp 161) (.tmp 161)), []⟩,
             ⟨9, some 163, none, .op .quiet (oBuild [(.slice none 0 0), (.slice none 0 0), (.slice none 0 0), (.slice none 0 0)] [(0, 1), (1, 1), (2, 1), (3, 1)] [(.tmp 155), (.tmp 157), (.tmp 159), (.tmp 162)]), []⟩,
             ⟨10, some 21, none, .op .quiet (oAlloc [(.slice none 0 0), (.slice none 0 0), (.slice none 0 0), (.slice none 0 0)]), []⟩,
             ⟨11, none, none, .op .hard (oStore 4 (.tmp 21) (.tmp 163)), []⟩])
           (.seq
            (.seq
             (.ops [⟨0, some 164, none, .op .quiet (oMv (.tmp 7)), []⟩,
               ⟨1, some 165, none, .op .quiet (oMv (.val (.int .i64 0))), []⟩])
             (.block 6
              (.loop
               (.seq
                (.ops [⟨0, some 166, none, .op .quiet (oArith .lss (.tmp 165) (.tmp 164)), []⟩])
                (.seq
                 (.cond (.tmp 166)
                  (.skip)
                  (.exit 6))
                 (.seq
                  (.block 7
                   (.seq
                    (.ops [⟨0, some 167, none, .op .quiet (oMv (.tmp 165)), []⟩,
                      ⟨1, some 22, none, .op .quiet (oMv (.tmp 167)), []⟩])
                    (.seq
                     (.drawn [⟨0, some 168, none, .op .quiet (oFieldAddr 1 (.tmp 3)), []⟩,
                       ⟨1, some 169, none, .op .reads (oLoad (.tmp 168)), []⟩,
                       ⟨2, some 170, none, .op .quiet (oMv (.tmp 8)), []⟩,
                       ⟨3, some 171, none, .op .quiet (oMv (.tmp 22)), []⟩,
                       ⟨4, some 172, none, .op .quiet (oIdxS 1 (.tmp 170) (.tmp 171)), []⟩,
                       ⟨5, some 173, none, .op .reads (oLoad (.tmp 172)), []⟩,
                       ⟨6, some 174, none, .op .quiet (oIdxS 1 (.tmp 169) (.tmp 173)), []⟩,
                       ⟨7, some 175, none, .op .reads (oLoad (.tmp 174)), []⟩,
                       ⟨8, some 176, none, .op .reads (oLoad (.tmp 9)), []⟩,
                       ⟨9, some 177, none, .op .quiet (oMv (.tmp 22)), []⟩,
                       ⟨10, some 178, none, .op .quiet (oIdxS 1 (.tmp 176) (.tmp 177)), []⟩,
                       ⟨11, some 179, none, .op .reads (oLoad (.tmp 178)), []⟩,
                       ⟨12, some 23, none, .op .quiet (oMv (.tmp 175)), []⟩,
                       ⟨13, some 24, none, .op .quiet (oMv (.tmp 179)), []⟩])
                     (.seq
                      (.ops [⟨0, some 181, none, .callF 195 [], []⟩,
                        ⟨1, some 180, none, .op .quiet (oMv (.tmp 181)), []⟩,
                        ⟨2, some 182, none, .op .quiet (oExtract 0 (.tmp 180)), []⟩,
                        ⟨3, some 183, none, .op .quiet (oExtract 1 (.tmp 180)), []⟩,
                        ⟨4, some 25, none, .op .quiet (oMv (.tmp 182)), []⟩,
                        ⟨5, some 26, none, .op .quiet (oMv (.tmp 183)), []⟩])
                      (.seq
                       (.ops [⟨0, some 184, none, .op .quiet (oMv (.tmp 25)), []⟩,
                         ⟨1, some 185, none, .op .quiet (oMv (.tmp 23)), []⟩,
                         ⟨2, some 186, none, .call (.tmp 184) [(.tmp 185)], []⟩])
                       (.seq
                        (.seq
                         (.drawn [⟨0, some 187, none, .op .quiet (oFieldAddr 0 (.tmp 3)), []⟩,
                           ⟨1, some 188, none, .op .reads (oLoad (.tmp 187)), []⟩,
                           ⟨2, some 189, none, .op .quiet (oMv (.tmp 24)), []⟩,
                           ⟨3, some 190, none, .op .quiet (oIdxS 1 (.tmp 188) (.tmp 189)), []⟩,
                           ⟨4, some 191, none, .op .reads (oLoad (.tmp 190)), []⟩,
                           ⟨5, some 192, none, .op .quiet (oFieldAddr 3 (.tmp 3)), []⟩,
                           ⟨6, some 193, none, .op .reads (oLoad (.tmp 192)), []⟩,
                           ⟨7, some 194, none, .op .quiet (oMv (.tmp 22)), []⟩,
                           ⟨8, some 195, none, .op .quiet (oIdxS 1 (.tmp 193) (.tmp 194)), []⟩,
                           ⟨9, some 196, none, .op .reads (oLoad (.tmp 195)), []⟩,
                           ⟨10, some 197, none, .op .quiet (oArith .eql (.tmp 191) (.tmp 196)), []⟩])
                         (.cond (.tmp 197)
                          (.seq
                           (.ops [⟨0, some 198, none, .op .quiet (oMv (.tmp 25)), []⟩,
                             ⟨1, some 199, none, .op .reads (oLoad (.tmp 12)), []⟩,
                             ⟨2, some 200, none, .op .quiet (oMv (.tmp 24)), []⟩,
                             ⟨3, some 201, none, .op .quiet (oIdxS 1 (.tmp 199) (.tmp 200)), []⟩,
                             ⟨4, some 202, none, .op .reads (oLoad (.tmp 201)), []⟩,
                             ⟨5, some 203, none, .op .quiet (oMv (.tmp 23)), []⟩,
                             ⟨6, some 204, none, .op .quiet (oMin (.tmp 202) [(.tmp 203)]), []⟩,
                             ⟨7, some 205, none, .call (.tmp 198) [(.tmp 204)], []⟩])
                           (.ops [⟨0, some 206, none, .op .quiet (oMv (.tmp 25)), []⟩,
                             ⟨1, some 207, none, .op .reads (oLoad (.tmp 13)), []⟩,
                             ⟨2, some 208, none, .op .quiet (oMv (.tmp 24)), []⟩,
                             ⟨3, some 209, none, .op .quiet (oIdxS 1 (.tmp 207) (.tmp 208)), []⟩,
                             ⟨4, some 210, none, .op .reads (oLoad (.tmp 209)), []⟩,
                             ⟨5, some 211, none, .op .quiet (oMv (.tmp 23)), []⟩,
                             ⟨6, some 212, none, .op .quiet (oMin (.tmp 210) [(.tmp 211)]), []⟩,
                             ⟨7, some 213, none, .call (.tmp 206) [(.tmp 212)], []⟩]))
                          (.ops [⟨0, some 214, none, .op .quiet (oMv (.tmp 25)), []⟩,
                            ⟨1, some 215, none, .op .quiet (oFieldAddr 1 (.tmp 3)), []⟩,
                            ⟨2, some 216, none, .op .reads (oLoad (.tmp 215)), []⟩,
                            ⟨3, some 217, none, .op .quiet (oMv (.tmp 24)), []⟩,
                            ⟨4, some 218, none, .op .quiet (oIdxS 1 (.tmp 216) (.tmp 217)), []⟩,
                            ⟨5, some 219, none, .op .reads (oLoad (.tmp 218)), []⟩,
                            ⟨6, some 220, none, .call (.tmp 214) [(.tmp 219)], []⟩])))
                        (.seq
                         (.ops [⟨0, some 222, none, .op .quiet (oMv (.tmp 26)), []⟩,
                           ⟨1, some 223, none, .call (.tmp 222) [], []⟩,
                           ⟨2, some 221, none, .op .quiet (oMv (.tmp 223)), []⟩,
                           ⟨3, some 224, none, .op .quiet (oExtract 0 (.tmp 221)), []⟩,
                           ⟨4, some 225, none, .op .quiet (oExtract 1 (.tmp 221)), []⟩,
                           ⟨5, some 27, none, .op .quiet (oMv (.tmp 224)), []⟩,
                           ⟨6, some 28, none, .op .quiet (oMv (.tmp 225)), []⟩])
                         (.seq
                          (.seq
                           (.ops [⟨0, some 226, none, .op .quiet (oMv (.tmp 28)), []⟩,
                             ⟨1, some 227, none, .op .quiet (oArith .eql (.tmp 226) (.val (.int .i64 9223372036854775807))), []⟩])
                           (.cond (.tmp 227)
                            (.ops [⟨0, some 228, none, .op .quiet (oMv (.tmp 27)), []⟩,
                              ⟨1, some 28, none, .op .quiet (oMv (.tmp 228)), []⟩])
                            (.skip)))
                          (.seq
                           (.drawn [⟨0, some 229, none, .op .quiet (oFieldAddr 0 (.tmp 21)), []⟩,
                             ⟨1, some 230, none, .op .reads (oLoad (.tmp 229)), []⟩,
                             ⟨2, some 231, none, .op .quiet (oMv (.tmp 22)), []⟩,
                             ⟨3, some 232, none, .op .quiet (oFieldAddr 1 (.tmp 21)), []⟩,
                             ⟨4, some 233, none, .op .reads (oLoad (.tmp 232)), []⟩,
                             ⟨5, some 234, none, .op .quiet (oMv (.tmp 22)), []⟩,
                             ⟨6, some 235, none, .op .quiet (oFieldAddr 2 (.tmp 21)), []⟩,
                             ⟨7, some 236, none, .op .reads (oLoad (.tmp 235)), []⟩,
                             ⟨8, some 237, none, .op .quiet (oMv (.tmp 22)), []⟩,
                             ⟨9, some 238, none, .op .quiet (oMv (.tmp 27)), []⟩,
                             ⟨10, some 239, none, .op .quiet (oMv (.tmp 28)), []⟩,
                             ⟨11, some 240, none, .op .quiet (oMv (.tmp 27)), []⟩,
                             ⟨12, some 241, none, .op .quiet (oArith .mul (.val (.int .i64 2)) (.tmp 240)), []⟩,
                             ⟨13, some 242, none, .op .quiet (oIdxS 1 (.tmp 230) (.tmp 231)), []⟩,
                             ⟨14, none, none, .op .hard (oStore 1 (.tmp 242) (.tmp 238)), [4, 7]⟩,
                             ⟨15, some 243, none, .op .quiet (oIdxS 1 (.tmp 233) (.tmp 234)), []⟩,
                             ⟨16, none, none, .op .hard (oStore 1 (.tmp 243) (.tmp 239)), [7]⟩,
                             ⟨17, some 244, none, .op .quiet (oIdxS 1 (.tmp 236) (.tmp 237)), []⟩,
                             ⟨18, none, none, .op .hard (oStore 1 (.tmp 244) (.tmp 241)), []⟩])
                           (.seq
                            (.ops [⟨0, some 245, none, .op .quiet (oMv (.tmp 28)), []⟩,
                              ⟨1, some 246, none, .op .quiet (oMv (.tmp 27)), []⟩,
                              ⟨2, some 247, none, .op .quiet (oArith .gtr (.tmp 245) (.tmp 246)), []⟩,
                              ⟨3, some 248, none, .op .quiet (oMv (.tmp 247)), []⟩,
                              ⟨4, some 249, some (248, true), .op .quiet (oMv (.tmp 28)), []⟩,
                              ⟨5, some 250, some (248, true), .op .quiet (oMv (.tmp 23)), []⟩,
                              ⟨6, some 251, some (248, true), .op .quiet (oArith .lss (.tmp 249) (.tmp 250)), []⟩,
                              ⟨7, some 252, none, .op .quiet (oPick (.tmp 248) (.tmp 251) (.val (.bool false))), []⟩])
                            (.cond (.tmp 252)
                             (.ops [⟨0, some 253, none, .op .quiet (oFieldAddr 2 (.tmp 21)), []⟩,
                               ⟨1, some 254, none, .op .reads (oLoad (.tmp 253)), []⟩,
                               ⟨2, some 255, none, .op .quiet (oMv (.tmp 22)), []⟩,
                               ⟨3, some 256, none, .op .quiet (oIdxS 1 (.tmp 254) (.tmp 255)), []⟩,
                               ⟨4, some 257, none, .op .reads (oLoad (.tmp 256)), []⟩,
                               ⟨5, some 258, none, .op .quiet (oArith .add (.tmp 257) (.val (.int .i64 1))), []⟩,
                               ⟨6, some 259, none, .op .quiet (oIdxS 1 (.tmp 254) (.tmp 255)), []⟩,
                               ⟨7, none, none, .op .hard (oStore 1 (.tmp 259) (.tmp 258)), []⟩])
                             (.skip))))))))))))
                  (.ops [⟨0, some 260, none, .op .quiet (oArith .add (.tmp 165) (.val (.int .i64 1))), []⟩,
                    ⟨1, some 165, none, .op .quiet (oMv (.tmp 260)), []⟩])))))))
            (.seq
             (.ops [⟨0, some 261, none, .op .quiet (oFieldAddr 3 (.tmp 3)), []⟩,
               ⟨1, some 262, none, .op .reads (oLoad (.tmp 261)), []⟩,
               ⟨2, some 263, none, .callF 197 [(.tmp 262)], []⟩,
               ⟨3, some 264, none, .callF 196 [(.tmp 263)], []⟩,
               ⟨4, some 29, none, .op .quiet (oMv (.tmp 264)), []⟩])
             (.seq
              (.ops [⟨0, some 266, none, .op .quiet (oMv (.tmp 29)), []⟩,
                ⟨1, some 267, none, .op .quiet (oClos 199 [] [(.tmp 21)]), []⟩,
                ⟨2, some 268, none, .op .quiet (oFieldAddr 0 (.tmp 2)), []⟩,
                ⟨3, some 269, none, .op .reads (oLoad (.tmp 268)), []⟩,
                ⟨4, some 270, none, .op .quiet (oArith .mul (.val (.int .i64 2)) (.tmp 269)), []⟩,
                ⟨5, some 271, none, .op .quiet (oArith .add (.tmp 270) (.val (.int .i64 1))), []⟩,
                ⟨6, some 272, none, .callF 198 [(.tmp 266), (.tmp 267), (.tmp 271)], []⟩,
                ⟨7, some 265, none, .op .quiet (oMv (.tmp 272)), []⟩,
                ⟨8, some 273, none, .op .quiet (oExtract 0 (.tmp 265)), []⟩,
                ⟨9, some 274, none, .op .quiet (oExtract 1 (.tmp 265)), []⟩,
                ⟨10, some 29, none, .op .quiet (oMv (.tmp 273)), []⟩])
              (.seq
               (.seq
                (.ops [⟨0, some 275, none, .op .quiet (oMv (.tmp 29)), []⟩,
                  ⟨1, some 276, none, .op .reads (oLen .slice (.tmp 275)), []⟩,
                  ⟨2, some 277, none, .op .quiet (oMv (.val (.int .i64 0))), []⟩])
                (.block 8
                 (.loop
                  (.seq
                   (.ops [⟨0, some 278, none, .op .quiet (oArith .lss (.tmp 277) (.tmp 276)), []⟩])
                   (.seq
                    (.cond (.tmp 278)
                     (.skip)
                     (.exit 8))
                    (.seq
                     (.block 9
                      (.seq
                       (.ops [⟨0, some 279, none, .op .quiet (oIdxS 1 (.tmp 275) (.tmp 277)), []⟩,
                         ⟨1, some 280, none, .op .reads (oLoad (.tmp 279)), []⟩,
                         ⟨2, some 31, none, .op .quiet (oMv (.tmp 280)), []⟩])
                       (.drawn [⟨0, some 281, none, .op .quiet (oFieldAddr 3 (.tmp 21)), []⟩,
                         ⟨1, some 282, none, .op .reads (oLoad (.tmp 281)), []⟩,
                         ⟨2, some 283, none, .op .quiet (oMv (.tmp 8)), []⟩,
                         ⟨3, some 284, none, .op .quiet (oMv (.tmp 31)), []⟩,
                         ⟨4, some 285, none, .op .quiet (oArith .quo (.tmp 284) (.val (.int .i64 2))), []⟩,
                         ⟨5, some 286, none, .op .quiet (oIdxS 1 (.tmp 283) (.tmp 285)), []⟩,
                         ⟨6, some 287, none, .op .reads (oLoad (.tmp 286)), []⟩,
                         ⟨7, some 288, none, .op .quiet (oFieldAddr 3 (.tmp 21)), []⟩,
                         ⟨8, some 289, none, .op .reads (oLoad (.tmp 288)), []⟩,
                         ⟨9, some 290, none, .op .quiet (oMv (.tmp 8)), []⟩,
                         ⟨10, some 291, none, .op .quiet (oMv (.tmp 31)), []⟩,
                         ⟨11, some 292, none, .op .quiet (oArith .quo (.tmp 291) (.val (.int .i64 2))), []⟩,
                         ⟨12, some 293, none, .op .quiet (oIdxS 1 (.tmp 290) (.tmp 292)), []⟩,
                         ⟨13, some 294, none, .op .reads (oLoad (.tmp 293)), []⟩,
                         ⟨14, some 295, none, .op .quiet (oIdxS 1 (.tmp 289) (.tmp 294)), []⟩,
                         ⟨15, some 296, none, .op .reads (oLoad (.tmp 295)), []⟩,
                         ⟨16, some 297, none, .op .quiet (oMv (.tmp 31)), []⟩,
                         ⟨17, some 298, none, .op .quiet (oBuildSlice 1 1 [(.int .i64 0)] [(0, 1)] [(.tmp 297)]), []⟩,
                         ⟨18, some 299, none, .op .hard (oAppend 1 8 (.tmp 296) (.tmp 298)), [1, 6]⟩,
                         ⟨19, some 300, none, .op .quiet (oIdxS 1 (.tmp 282) (.tmp 287)), []⟩,
                         ⟨20, none, none, .op .hard (oStore 1 (.tmp 300) (.tmp 299)), []⟩])))
                     (.ops [⟨0, some 301, none, .op .quiet (oArith .add (.tmp 277) (.val (.int .i64 1))), []⟩,
                       ⟨1, some 277, none, .op .quiet (oMv (.tmp 301)), []⟩])))))))
               (.seq
                (.ops [⟨0, some 302, none, .op .reads (oLoadN 4 (.tmp 21)), []⟩,
                  ⟨1, none, none, .op .hard (oStore 4 (.tmp 4) (.tmp 302)), []⟩,
                  ⟨2, some 5, none, .op .quiet (oMv (.val (.int .i64 0))), []⟩])
                (.ret)))))))))))))))⟩
noncomputable def l113095 : AL := ⟨[96, 97],
 (.ops [⟨0, some 15, none, .op .quiet (oMv (.tmp 97)), []⟩]),
 (.block 3
   (.seq
    (.ops [⟨0, some 99, none, .callF 195 [], []⟩,
      ⟨1, some 98, none, .op .quiet (oMv (.tmp 99)), []⟩,
      ⟨2, some 100, none, .op .quiet (oExtract 0 (.tmp 98)), []⟩,
      ⟨3, some 101, none, .op .quiet (oExtract 1 (.tmp 98)), []⟩,
      ⟨4, some 16, none, .op .quiet (oMv (.tmp 100)), []⟩,
      ⟨5, some 17, none, .op .quiet (oMv (.tmp 101)), []⟩])
    (.seq
     (.seq
      (.ops [⟨0, some 102, none, .op .reads (oLoad (.tmp 10)), []⟩,
        ⟨1, some 103, none, .op .quiet (oMv (.tmp 15)), []⟩,
        ⟨2, some 104, none, .op .quiet (oIdxS 1 (.tmp 102) (.tmp 103)), []⟩,
        ⟨3, some 105, none, .op .reads (oLoad (.tmp 104)), []⟩,
        ⟨4, some 106, none, .op .reads (oLen .slice (.tmp 105)), []⟩,
        ⟨5, some 107, none, .op .quiet (oMv (.val (.int .i64 0))), []⟩])
      (.block 4
       (.loop
        (.seq
         (.ops [⟨0, some 108, none, .op .quiet (oArith .lss (.tmp 107) (.tmp 106)), []⟩])
         (.seq
          (.cond (.tmp 108)
           (.skip)
           (.exit 4))
          (.seq
           (.block 5
            (.seq
             (.ops [⟨0, some 109, none, .op .quiet (oIdxS 1 (.tmp 105) (.tmp 107)), []⟩,
               ⟨1, some 110, none, .op .reads (oLoad (.tmp 109)), []⟩,
               ⟨2, some 19, none, .op .quiet (oMv (.tmp 110)), []⟩])
             (.seq
              (.ops [⟨0, some 111, none, .op .reads (oLoad (.tmp 9)), []⟩,
                ⟨1, some 112, none, .op .quiet (oMv (.tmp 19)), []⟩,
                ⟨2, some 113, none, .op .quiet (oArith .quo (.tmp 112) (.val (.int .i64 2))), []⟩,
                ⟨3, some 114, none, .op .quiet (oIdxS 1 (.tmp 111) (.tmp 113)), []⟩,
                ⟨4, some 115, none, .op .reads (oLoad (.tmp 114)), []⟩,
                ⟨5, some 20, none, .op .quiet (oMv (.tmp 115)), []⟩])
              (.seq
               (.ops [⟨0, some 116, none, .op .quiet (oFieldAddr 0 (.tmp 3)), []⟩,
                 ⟨1, some 117, none, .op .reads (oLoad (.tmp 116)), []⟩,
                 ⟨2, some 118, none, .op .quiet (oMv (.tmp 20)), []⟩,
                 ⟨3, some 119, none, .op .quiet (oIdxS 1 (.tmp 117) (.tmp 118)), []⟩,
                 ⟨4, some 120, none, .op .reads (oLoad (.tmp 119)), []⟩,
                 ⟨5, some 121, none, .op .quiet (oMv (.tmp 19)), []⟩,
                 ⟨6, some 122, none, .op .quiet (oArith .eql (.tmp 120) (.tmp 121)), []⟩])
               (.cond (.tmp 122)
                (.seq
                 (.ops [⟨0, some 123, none, .op .quiet (oMv (.tmp 16)), []⟩,
                   ⟨1, some 124, none, .op .reads (oLoad (.tmp 12)), []⟩,
                   ⟨2, some 125, none, .op .quiet (oMv (.tmp 20)), []⟩,
                   ⟨3, some 126, none, .op .quiet (oIdxS 1 (.tmp 124) (.tmp 125)), []⟩,
                   ⟨4, some 127, none, .op .reads (oLoad (.tmp 126)), []⟩,
                   ⟨5, some 128, none, .call (.tmp 123) [(.tmp 127)], []⟩])
                 (.ops [⟨0, some 129, none, .op .quiet (oMv (.tmp 16)), []⟩,
                   ⟨1, some 130, none, .op .reads (oLoad (.tmp 13)), []⟩,
                   ⟨2, some 131, none, .op .quiet (oMv (.tmp 20)), []⟩,
                   ⟨3, some 132, none, .op .quiet (oIdxS 1 (.tmp 130) (.tmp 131)), []⟩,
                   ⟨4, some 133, none, .op .reads (oLoad (.tmp 132)), []⟩,
                   ⟨5, some 134, none, .call (.tmp 129) [(.tmp 133)], []⟩]))
                (.ops [⟨0, some 135, none, .op .quiet (oMv (.tmp 16)), []⟩,
                  ⟨1, some 136, none, .op .quiet (oFieldAddr 1 (.tmp 3)), []⟩,
                  ⟨2, some 137, none, .op .reads (oLoad (.tmp 136)), []⟩,
                  ⟨3, some 138, none, .op .quiet (oMv (.tmp 20)), []⟩,
                  ⟨4, some 139, none, .op .quiet (oIdxS 1 (.tmp 137) (.tmp 138)), []⟩,
                  ⟨5, some 140, none, .op .reads (oLoad (.tmp 139)), []⟩,
                  ⟨6, some 141, none, .call (.tmp 135) [(.tmp 140)], []⟩]))))))
           (.ops [⟨0, some 142, none, .op .quiet (oArith .add (.tmp 107) (.val (.int .i64 1))), []⟩,
             ⟨1, some 107, none, .op .quiet (oMv (.tmp 142)), []⟩])))))))
     (.drawn [⟨0, some 144, none, .op .reads (oLoad (.tmp 12)), []⟩,
       ⟨1, some 145, none, .op .quiet (oMv (.tmp 15)), []⟩,
       ⟨2, some 146, none, .op .reads (oLoad (.tmp 13)), []⟩,
       ⟨3, some 147, none, .op .quiet (oMv (.tmp 15)), []⟩,
       ⟨4, some 148, none, .op .quiet (oMv (.tmp 17)), []⟩,
       ⟨5, some 149, none, .call (.tmp 148) [], [0, 2]⟩,
       ⟨6, some 143, none, .op .quiet (oMv (.tmp 149)), []⟩,
       ⟨7, some 150, none, .op .quiet (oExtract 0 (.tmp 143)), []⟩,
       ⟨8, some 151, none, .op .quiet (oExtract 1 (.tmp 143)), []⟩,
       ⟨9, some 152, none, .op .quiet (oIdxS 1 (.tmp 144) (.tmp 145)), []⟩,
       ⟨10, none, none, .op .hard (oStore 1 (.tmp 152) (.tmp 150)), [2]⟩,
       ⟨11, some 153, none, .op .quiet (oIdxS 1 (.tmp 146) (.tmp 147)), []⟩,
       ⟨12, none, none, .op .hard (oStore 1 (.tmp 153) (.tmp 151)), []⟩]))))⟩
/-- (*tangram/lr.test).walk -/
noncomputable def a114 : AF := ⟨[.tmp 4],
 (.seq
   (.ops [⟨0, some 4, none, .op .quiet (oMv (.val (.bool false))), []⟩])
   (.seq
    (.ops [⟨0, some 14, none, .op .quiet (oMv (.tmp 1)), []⟩,
      ⟨1, some 15, none, .op .quiet (oBuild [(.int .i64 0), (.int .i64 0)] [(0, 1), (1, 1)] [(.tmp 14), (.val (.int .i64 0))]), []⟩,
      ⟨2, some 16, none, .op .quiet (oBuildSlice 2 1 [(.int .i64 0), (.int .i64 0)] [(0, 2)] [(.tmp 15)]), []⟩,
      ⟨3, some 5, none, .op .quiet (oMv (.tmp 16)), []⟩])
    (.seq
     (.block 0
      (.loop
       (.seq
        (.seq
         (.ops [⟨0, some 17, none, .op .quiet (oMv (.tmp 5)), []⟩,
           ⟨1, some 18, none, .op .reads (oLen .slice (.tmp 17)), []⟩,
           ⟨2, some 19, none, .op .quiet (oArith .gtr (.tmp 18) (.val (.int .i64 0))), []⟩])
         (.cond (.tmp 19)
          (.skip)
          (.exit 0)))
        (.block 1
         (.seq
          (.ops [⟨0, some 20, none, .op .quiet (oMv (.tmp 5)), []⟩,
            ⟨1, some 21, none, .op .quiet (oMv (.tmp 5)), []⟩,
            ⟨2, some 22, none, .op .reads (oLen .slice (.tmp 21)), []⟩,
            ⟨3, some 23, none, .op .quiet (oArith .sub (.tmp 22) (.val (.int .i64 1))), []⟩,
            ⟨4, some 24, none, .op .quiet (oIdxS 2 (.tmp 20) (.tmp 23)), []⟩,
            ⟨5, some 6, none, .op .quiet (oMv (.tmp 24)), []⟩])
          (.seq
           (.drawn [⟨0, some 25, none, .op .quiet (oMv (.tmp 6)), []⟩,
             ⟨1, some 26, none, .op .quiet (oNilCheck (.tmp 25)), []⟩,
             ⟨2, some 27, none, .op .quiet (oFieldAddr 0 (.tmp 26)), []⟩,
             ⟨3, some 28, none, .op .reads (oLoad (.tmp 27)), []⟩,
             ⟨4, some 29, none, .op .quiet (oMv (.tmp 6)), []⟩,
             ⟨5, some 30, none, .op .quiet (oNilCheck (.tmp 29)), []⟩,
             ⟨6, some 31, none, .op .quiet (oFieldAddr 1 (.tmp 30)), []⟩,
             ⟨7, some 32, none, .op .reads (oLoad (.tmp 31)), []⟩,
             ⟨8, some 7, none, .op .quiet (oMv (.tmp 28)), []⟩,
             ⟨9, some 8, none, .op .quiet (oMv (.tmp 32)), []⟩])
           (.seq
            (.seq
             (.ops [⟨0, some 33, none, .op .quiet (oMv (.tmp 8)), []⟩,
               ⟨1, some 34, none, .op .quiet (oMv (.tmp 0)), []⟩,
               ⟨2, some 35, none, .op .quiet (oNilCheck (.tmp 34)), []⟩,
               ⟨3, some 36, none, .op .quiet (oFieldAddr 6 (.tmp 35)), []⟩,
               ⟨4, some 37, none, .op .quiet (oFieldAddr 3 (.tmp 36)), []⟩,
               ⟨5, some 38, none, .op .reads (oLoad (.tmp 37)), []⟩,
               ⟨6, some 39, none, .op .quiet (oMv (.tmp 7)), []⟩,
               ⟨7, some 40, none, .op .quiet (oIdxS 1 (.tmp 38) (.tmp 39)), []⟩,
               ⟨8, some 41, none, .op .reads (oLoad (.tmp 40)), []⟩,
               ⟨9, some 42, none, .op .reads (oLen .slice (.tmp 41)), []⟩,
               ⟨10, some 43, none, .op .quiet (oArith .lss (.tmp 33) (.tmp 42)), []⟩])
             (.cond (.tmp 43)
              (.seq
               (.ops [⟨0, some 44, none, .op .quiet (oMv (.tmp 0)), []⟩,
                 ⟨1, some 45, none, .op .quiet (oNilCheck (.tmp 44)), []⟩,
                 ⟨2, some 46, none, .op .quiet (oFieldAddr 6 (.tmp 45)), []⟩,
                 ⟨3, some 47, none, .op .quiet (oFieldAddr 3 (.tmp 46)), []⟩,
                 ⟨4, some 48, none, .op .reads (oLoad (.tmp 47)), []⟩,
                 ⟨5, some 49, none, .op .quiet (oMv (.tmp 7)), []⟩,
                 ⟨6, some 50, none, .op .quiet (oIdxS 1 (.tmp 48) (.tmp 49)), []⟩,
                 ⟨7, some 51, none, .op .reads (oLoad (.tmp 50)), []⟩,
                 ⟨8, some 52, none, .op .quiet (oMv (.tmp 8)), []⟩,
                 ⟨9, some 53, none, .op .quiet (oIdxS 1 (.tmp 51) (.tmp 52)), []⟩,
                 ⟨10, some 54, none, .op .reads (oLoad (.tmp 53)), []⟩,
                 ⟨11, some 9, none, .op .quiet (oMv (.tmp 54)), []⟩])
               (.seq
                (.ops [⟨0, some 55, none, .op .quiet (oMv (.tmp 9)), []⟩,
                  ⟨1, some 56, none, .op .quiet (oArith .quo (.tmp 55) (.val (.int .i64 2))), []⟩,
                  ⟨2, some 10, none, .op .quiet (oMv (.tmp 56)), []⟩])
                (.seq
                 (.drawn [⟨0, some 57, none, .op .quiet (oMv (.tmp 0)), []⟩,
                   ⟨1, some 58, none, .op .quiet (oNilCheck (.tmp 57)), []⟩,
                   ⟨2, some 59, none, .op .quiet (oFieldAddr 13 (.tmp 58)), []⟩,
                   ⟨3, some 60, none, .op .reads (oLoad (.tmp 59)), []⟩,
                   ⟨4, some 61, none, .op .quiet (oMv (.tmp 10)), []⟩,
                   ⟨5, some 62, none, .op .quiet (oMv (.tmp 0)), []⟩,
                   ⟨6, some 63, none, .op .quiet (oNilCheck (.tmp 62)), []⟩,
                   ⟨7, some 64, none, .op .quiet (oFieldAddr 10 (.tmp 63)), []⟩,
                   ⟨8, some 65, none, .op .reads (oLoad (.tmp 64)), []⟩,
                   ⟨9, some 66, none, .op .reads (oLen .slice (.tmp 65)), []⟩,
                   ⟨10, some 67, none, .op .quiet (oIdxS 1 (.tmp 60) (.tmp 61)), []⟩,
                   ⟨11, none, none, .op .hard (oStore 1 (.tmp 67) (.tmp 66)), []⟩])
                 (.seq
                  (.ops [⟨0, some 69, none, .op .quiet (oMv (.tmp 0)), []⟩,
                    ⟨1, some 70, none, .op .quiet (oMv (.tmp 10)), []⟩,
                    ⟨2, some 71, none, .callF 176 [(.tmp 69), (.tmp 70)], []⟩,
                    ⟨3, some 68, none, .op .quiet (oMv (.tmp 71)), []⟩,
                    ⟨4, some 72, none, .op .quiet (oExtract 0 (.tmp 68)), []⟩,
                    ⟨5, some 73, none, .op .quiet (oExtract 1 (.tmp 68)), []⟩,
                    ⟨6, some 11, none, .op .quiet (oMv (.tmp 72)), []⟩,
                    ⟨7, some 12, none, .op .quiet (oMv (.tmp 73)), []⟩])
                  (.seq
                   (.seq
                    (.ops [⟨0, some 74, none, .op .quiet (oMv (.tmp 0)), []⟩,
                      ⟨1, some 75, none, .op .quiet (oNilCheck (.tmp 74)), []⟩,
                      ⟨2, some 76, none, .op .quiet (oFieldAddr 2 (.tmp 75)), []⟩,
                      ⟨3, some 77, none, .op .quiet (oFieldAddr 0 (.tmp 76)), []⟩,
                      ⟨4, some 78, none, .op .reads (oLoad (.tmp 77)), []⟩,
                      ⟨5, some 79, none, .op .quiet (oMv (.tmp 12)), []⟩,
                      ⟨6, some 80, none, .op .quiet (oIdxS 1 (.tmp 78) (.tmp 79)), []⟩,
                      ⟨7, some 81, none, .op .reads (oLoad (.tmp 80)), []⟩,
                      ⟨8, some 82, none, .op .quiet (oMv (.tmp 9)), []⟩,
                      ⟨9, some 83, none, .op .quiet (oArith .eql (.tmp 81) (.tmp 82)), []⟩])
                    (.cond (.tmp 83)
                     (.seq
                      (.ops [⟨0, some 84, none, .op .quiet (oMv (.tmp 5)), []⟩,
                        ⟨1, some 85, none, .op .quiet (oMv (.tmp 12)), []⟩,
                        ⟨2, some 86, none, .op .quiet (oBuild [(.int .i64 0), (.int .i64 0)] [(0, 1), (1, 1)] [(.tmp 85), (.val (.int .i64 0))]), []⟩,
                        ⟨3, some 87, none, .op .quiet (oBuildSlice 2 1 [(.int .i64 0), (.int .i64 0)] [(0, 2)] [(.tmp 86)]), []⟩,
                        ⟨4, some 88, none, .op .hard (oAppend 2 16 (.tmp 84) (.tmp 87)), []⟩,
                        ⟨5, some 5, none, .op .quiet (oMv (.tmp 88)), []⟩])
                      (.exit 1))
                     (.skip)))
                   (.seq
                    (.ops [⟨0, some 89, none, .op .quiet (oMv (.tmp 0)), []⟩,
                      ⟨1, some 90, none, .op .quiet (oNilCheck (.tmp 89)), []⟩,
                      ⟨2, some 91, none, .op .quiet (oFieldAddr 14 (.tmp 90)), []⟩,
                      ⟨3, some 92, none, .op .reads (oLoad (.tmp 91)), []⟩,
                      ⟨4, some 93, none, .op .quiet (oMv (.tmp 10)), []⟩,
                      ⟨5, some 94, none, .op .quiet (oMv (.tmp 10)), []⟩,
                      ⟨6, some 95, none, .op .quiet (oIdxS 1 (.tmp 92) (.tmp 93)), []⟩,
                      ⟨7, none, none, .op .hard (oStore 1 (.tmp 95) (.tmp 94)), []⟩])
                    (.seq
                     (.drawn [⟨0, some 96, none, .op .quiet (oMv (.tmp 0)), []⟩,
                       ⟨1, some 97, none, .op .quiet (oMv (.tmp 0)), []⟩,
                       ⟨2, some 98, none, .op .quiet (oNilCheck (.tmp 97)), []⟩,
                       ⟨3, some 99, none, .op .quiet (oFieldAddr 10 (.tmp 98)), []⟩,
                       ⟨4, some 100, none, .op .reads (oLoad (.tmp 99)), []⟩,
                       ⟨5, some 101, none, .op .reads (oLoadN 2 (.val (.pointer (some ⟨0, 0, none⟩)))), []⟩,
                       ⟨6, some 102, none, .op .quiet (oMv (.tmp 10)), []⟩,
                       ⟨7, some 103, none, .op .quiet (oMv (.tmp 10)), []⟩,
                       ⟨8, some 104, none, .op .quiet (oBuild [(.int .i64 0), (.int .i64 0)] [(0, 1), (1, 1)] [(.tmp 102), (.tmp 103)]), []⟩,
                       ⟨9, some 105, none, .op .quiet (oBuild [(.int .i64 0), (.int .i64 0), (.int .i64 0), (.int .i64 0)] [(0, 2), (2, 2)] [(.tmp 101), (.tmp 104)]), []⟩,
                       ⟨10, some 106, none, .op .quiet (oBuildSlice 4 1 [(.int .i64 0), (.int .i64 0), (.int .i64 0), (.int .i64 0)] [(0, 4)] [(.tmp 105)]), []⟩,
                       ⟨11, some 107, none, .op .hard (oAppend 4 32 (.tmp 100) (.tmp 106)), []⟩,
                       ⟨12, some 108, none, .op .quiet (oNilCheck (.tmp 96)), []⟩,
                       ⟨13, some 109, none, .op .quiet (oFieldAddr 10 (.tmp 108)), []⟩,
                       ⟨14, none, none, .op .hard (oStore 1 (.tmp 109) (.tmp 107)), []⟩])
                     (.seq
                      (.ops [⟨0, some 110, none, .op .quiet (oMv (.tmp 6)), []⟩,
                        ⟨1, some 111, none, .op .quiet (oNilCheck (.tmp 110)), []⟩,
                        ⟨2, some 112, none, .op .quiet (oFieldAddr 1 (.tmp 111)), []⟩,
                        ⟨3, some 113, none, .op .reads (oLoad (.tmp 112)), []⟩,
                        ⟨4, some 114, none, .op .quiet (oArith .add (.tmp 113) (.val (.int .i64 1))), []⟩,
                        ⟨5, some 115, none, .op .quiet (oNilCheck (.tmp 110)), []⟩,
                        ⟨6, some 116, none, .op .quiet (oFieldAddr 1 (.tmp 115)), []⟩,
                        ⟨7, none, none, .op .hard (oStore 1 (.tmp 116) (.tmp 114)), []⟩])
                      (.seq
                       (.seq
                        (.ops [⟨0, some 117, none, .op .quiet (oMv (.tmp 0)), []⟩,
                          ⟨1, some 118, none, .op .quiet (oMv (.tmp 7)), []⟩,
                          ⟨2, some 119, none, .op .quiet (oMv (.tmp 8)), []⟩,
                          ⟨3, some 120, none, .callF 200 [(.tmp 117), (.tmp 118), (.tmp 119)], []⟩,
                          ⟨4, some 121, none, .op .quiet (oNot (.tmp 120)), []⟩])
                        (.cond (.tmp 121)
                         (.seq
                          (.ops [⟨0, some 4, none, .op .quiet (oMv (.val (.bool false))), []⟩])
                          (.ret))
                         (.skip)))
                       (.exit 1))))))))))
              (.skip)))
            (.seq
             (.ops [⟨0, some 122, none, .op .quiet (oMv (.tmp 5)), []⟩,
               ⟨1, some 123, none, .op .quiet (oMv (.tmp 5)), []⟩,
               ⟨2, some 124, none, .op .reads (oLen .slice (.tmp 123)), []⟩,
               ⟨3, some 125, none, .op .quiet (oArith .sub (.tmp 124) (.val (.int .i64 1))), []⟩,
               ⟨4, some 126, none, .op .quiet (oSlice 2 (.tmp 122) none (some (.tmp 125)) none), []⟩,
               ⟨5, some 5, none, .op .quiet (oMv (.tmp 126)), []⟩])
             (.seq
              (.seq
               (.ops [⟨0, some 127, none, .op .quiet (oMv (.tmp 5)), []⟩,
                 ⟨1, some 128, none, .op .reads (oLen .slice (.tmp 127)), []⟩,
                 ⟨2, some 129, none, .op .quiet (oArith .eql (.tmp 128) (.val (.int .i64 0))), []⟩])
               (.cond (.tmp 129)
                (.seq
                 (.ops [⟨0, some 4, none, .op .quiet (oMv (.val (.bool true))), []⟩])
                 (.ret))
                (.skip)))
              (.seq
               (.ops [⟨0, some 130, none, .op .quiet (oMv (.tmp 5)), []⟩,
                 ⟨1, some 131, none, .op .quiet (oMv (.tmp 5)), []⟩,
                 ⟨2, some 132, none, .op .reads (oLen .slice (.tmp 131)), []⟩,
                 ⟨3, some 133, none, .op .quiet (oArith .sub (.tmp 132) (.val (.int .i64 1))), []⟩,
                 ⟨4, some 134, none, .op .quiet (oIdxS 2 (.tmp 130) (.tmp 133)), []⟩,
                 ⟨5, some 13, none, .op .quiet (oMv (.tmp 134)), []⟩])
               (.seq
                (.drawn [⟨0, some 135, none, .op .quiet (oMv (.tmp 0)), []⟩,
                  ⟨1, some 136, none, .op .quiet (oMv (.tmp 0)), []⟩,
                  ⟨2, some 137, none, .op .quiet (oMv (.tmp 7)), []⟩,
                  ⟨4, some 139, none, .op .quiet (oMv (.tmp 13)), []⟩,
                  ⟨5, some 140, none, .op .quiet (oNilCheck (.tmp 139)), []⟩,
                  ⟨6, some 141, none, .op .quiet (oFieldAddr 0 (.tmp 140)), []⟩,
                  ⟨7, some 142, none, .op .reads (oLoad (.tmp 141)), []⟩,
                  ⟨3, some 138, none, .callF 177 [(.tmp 136), (.tmp 137)], [7]⟩,
                  ⟨8, some 143, none, .callF 201 [(.tmp 135), (.tmp 138), (.tmp 142)], []⟩])
                (.seq
                 (.ops [⟨0, some 144, none, .op .quiet (oMv (.tmp 13)), []⟩,
                   ⟨1, some 145, none, .op .quiet (oNilCheck (.tmp 144)), []⟩,
                   ⟨2, some 146, none, .op .quiet (oFieldAddr 1 (.tmp 145)), []⟩,
                   ⟨3, some 147, none, .op .reads (oLoad (.tmp 146)), []⟩,
                   ⟨4, some 148, none, .op .quiet (oArith .add (.tmp 147) (.val (.int .i64 1))), []⟩,
                   ⟨5, some 149, none, .op .quiet (oNilCheck (.tmp 144)), []⟩,
                   ⟨6, some 150, none, .op .quiet (oFieldAddr 1 (.tmp 149)), []⟩,
                   ⟨7, none, none, .op .hard (oStore 1 (.tmp 150) (.tmp 148)), []⟩])
                 (.seq
                  (.drawn [⟨0, some 151, none, .op .quiet (oMv (.tmp 0)), []⟩,
                    ⟨1, some 152, none, .op .quiet (oMv (.tmp 13)), []⟩,
                    ⟨2, some 153, none, .op .quiet (oNilCheck (.tmp 152)), []⟩,
                    ⟨3, some 154, none, .op .quiet (oFieldAddr 0 (.tmp 153)), []⟩,
                    ⟨4, some 155, none, .op .reads (oLoad (.tmp 154)), []⟩,
                    ⟨5, some 156, none, .op .quiet (oMv (.tmp 13)), []⟩,
                    ⟨6, some 157, none, .op .quiet (oNilCheck (.tmp 156)), []⟩,
                    ⟨7, some 158, none, .op .quiet (oFieldAddr 1 (.tmp 157)), []⟩,
                    ⟨8, some 159, none, .op .reads (oLoad (.tmp 158)), []⟩,
                    ⟨9, some 160, none, .op .quiet (oArith .sub (.tmp 159) (.val (.int .i64 1))), []⟩,
                    ⟨10, some 161, none, .callF 200 [(.tmp 151), (.tmp 155), (.tmp 160)], []⟩,
                    ⟨11, some 162, none, .op .quiet (oNot (.tmp 161)), []⟩])
                  (.cond (.tmp 162)
                   (.seq
                    (.ops [⟨0, some 4, none, .op .quiet (oMv (.val (.bool false))), []⟩])
                    (.ret))
                   (.skip)))))))))))))))
     (.seq
      (.ops [⟨0, some 4, none, .op .quiet (oMv (.val (.bool true))), []⟩])
      (.ret)))))⟩
/-- (*tangram/lr.test).sides -/
noncomputable def a115 : AF := ⟨[.tmp 2],
 (.seq
   (.ops [⟨0, some 2, none, .op .quiet (oMv (.val (.slice none 0 0))), []⟩])
   (.seq
    (.ops [⟨0, some 10, none, .op .quiet (oMv (.tmp 0)), []⟩,
      ⟨1, some 11, none, .op .quiet (oNilCheck (.tmp 10)), []⟩,
      ⟨2, some 12, none, .op .quiet (oFieldAddr 0 (.tmp 11)), []⟩,
      ⟨3, some 13, none, .op .quiet (oFieldAddr 1 (.tmp 12)), []⟩,
      ⟨4, some 14, none, .op .reads (oLoad (.tmp 13)), []⟩,
      ⟨5, some 15, none, .op .reads (oLen .slice (.tmp 14)), []⟩,
      ⟨6, some 16, none, .op .quiet (oMkSlice 1 8 [(.int .i64 0)] (.tmp 15) (.tmp 15)), []⟩,
      ⟨7, some 3, none, .op .quiet (oMv (.tmp 16)), []⟩])
    (.seq
     (.seq
      (.ops [⟨0, some 17, none, .op .quiet (oMv (.tmp 3)), []⟩,
        ⟨1, some 18, none, .op .reads (oLen .slice (.tmp 17)), []⟩,
        ⟨2, some 19, none, .op .quiet (oMv (.val (.int .i64 0))), []⟩])
      (.block 0
       (.loop
        (.seq
         (.ops [⟨0, some 20, none, .op .quiet (oArith .lss (.tmp 19) (.tmp 18)), []⟩])
         (.seq
          (.cond (.tmp 20)
           (.skip)
           (.exit 0))
          (.seq
           (.block 1
            (.seq
             (.ops [⟨0, some 21, none, .op .quiet (oMv (.tmp 19)), []⟩,
               ⟨1, some 4, none, .op .quiet (oMv (.tmp 21)), []⟩])
             (.seq
              (.ops [⟨0, some 5, none, .op .quiet (oMv (.val (.slice none 0 0))), []⟩])
              (.seq
               (.seq
                (.ops [⟨0, some 22, none, .op .quiet (oMv (.tmp 4)), []⟩,
                  ⟨1, some 6, none, .op .quiet (oMv (.tmp 22)), []⟩])
                (.block 2
                 (.loop
                  (.seq
                   (.seq
                    (.ops [⟨0, some 23, none, .op .quiet (oMv (.tmp 6)), []⟩,
                      ⟨1, some 24, none, .op .quiet (oArith .neq (.tmp 23) (.val (.int .i64 (-1)))), []⟩])
                    (.cond (.tmp 24)
                     (.skip)
                     (.exit 2)))
                   (.seq
                    (.block 3
                     (.ops [⟨0, some 32, none, .op .quiet (oMv (.tmp 5)), []⟩,
                       ⟨1, some 33, none, .op .quiet (oMv (.tmp 6)), []⟩,
                       ⟨2, some 34, none, .op .quiet (oBuildSlice 1 1 [(.int .i64 0)] [(0, 1)] [(.tmp 33)]), []⟩,
                       ⟨3, some 35, none, .op .hard (oAppend 1 8 (.tmp 32) (.tmp 34)), []⟩,
                       ⟨4, some 5, none, .op .quiet (oMv (.tmp 35)), []⟩]))
                    (.ops [⟨0, some 25, none, .op .quiet (oMv (.tmp 0)), []⟩,
                      ⟨1, some 26, none, .op .quiet (oNilCheck (.tmp 25)), []⟩,
                      ⟨2, some 27, none, .op .quiet (oFieldAddr 11 (.tmp 26)), []⟩,
                      ⟨3, some 28, none, .op .reads (oLoad (.tmp 27)), []⟩,
                      ⟨4, some 29, none, .op .quiet (oMv (.tmp 6)), []⟩,
                      ⟨5, some 30, none, .op .quiet (oIdxS 1 (.tmp 28) (.tmp 29)), []⟩,
                      ⟨6, some 31, none, .op .reads (oLoad (.tmp 30)), []⟩,
                      ⟨7, some 6, none, .op .quiet (oMv (.tmp 31)), []⟩]))))))
               (.seq
                (.seq
                 (.ops [⟨0, some 36, none, .op .quiet (oMv (.tmp 5)), []⟩,
                   ⟨1, some 37, none, .op .reads (oLen .slice (.tmp 36)), []⟩,
                   ⟨2, some 38, none, .op .quiet (oArith .sub (.tmp 37) (.val (.int .i64 2))), []⟩,
                   ⟨3, some 7, none, .op .quiet (oMv (.tmp 38)), []⟩])
                 (.block 4
                  (.loop
                   (.seq
                    (.seq
                     (.ops [⟨0, some 39, none, .op .quiet (oMv (.tmp 7)), []⟩,
                       ⟨1, some 40, none, .op .quiet (oArith .geq (.tmp 39) (.val (.int .i64 0))), []⟩])
                     (.cond (.tmp 40)
                      (.skip)
                      (.exit 4)))
                    (.seq
                     (.block 5
                      (.seq
                       (.drawn [⟨0, some 43, none, .op .quiet (oMv (.tmp 0)), []⟩,
                         ⟨1, some 44, none, .op .quiet (oNilCheck (.tmp 43)), []⟩,
                         ⟨2, some 45, none, .op .quiet (oFieldAddr 12 (.tmp 44)), []⟩,
                         ⟨3, some 46, none, .op .reads (oLoad (.tmp 45)), []⟩,
                         ⟨4, some 47, none, .op .quiet (oMv (.tmp 5)), []⟩,
                         ⟨5, some 48, none, .op .quiet (oMv (.tmp 7)), []⟩,
                         ⟨6, some 49, none, .op .quiet (oIdxS 1 (.tmp 47) (.tmp 48)), []⟩,
                         ⟨7, some 50, none, .op .reads (oLoad (.tmp 49)), []⟩,
                         ⟨8, some 51, none, .op .quiet (oIdxS 1 (.tmp 46) (.tmp 50)), []⟩,
                         ⟨9, some 52, none, .op .reads (oLoad (.tmp 51)), []⟩,
                         ⟨10, some 53, none, .op .quiet (oMv (.tmp 0)), []⟩,
                         ⟨11, some 54, none, .op .quiet (oNilCheck (.tmp 53)), []⟩,
                         ⟨12, some 55, none, .op .quiet (oFieldAddr 12 (.tmp 54)), []⟩,
                         ⟨13, some 56, none, .op .reads (oLoad (.tmp 55)), []⟩,
                         ⟨14, some 57, none, .op .quiet (oMv (.tmp 5)), []⟩,
                         ⟨15, some 58, none, .op .quiet (oMv (.tmp 7)), []⟩,
                         ⟨16, some 59, none, .op .quiet (oArith .add (.tmp 58) (.val (.int .i64 1))), []⟩,
                         ⟨17, some 60, none, .op .quiet (oIdxS 1 (.tmp 57) (.tmp 59)), []⟩,
                         ⟨18, some 61, none, .op .reads (oLoad (.tmp 60)), []⟩,
                         ⟨19, some 62, none, .op .quiet (oIdxS 1 (.tmp 56) (.tmp 61)), []⟩,
                         ⟨20, some 63, none, .op .reads (oLoad (.tmp 62)), []⟩,
                         ⟨21, some 64, none, .op .quiet (oArith .mul (.tmp 52) (.tmp 63)), []⟩,
                         ⟨22, some 65, none, .op .quiet (oIdxS 1 (.tmp 46) (.tmp 50)), []⟩,
                         ⟨23, none, none, .op .hard (oStore 1 (.tmp 65) (.tmp 64)), []⟩])
                       (.drawn [⟨0, some 66, none, .op .quiet (oMv (.tmp 0)), []⟩,
                         ⟨1, some 67, none, .op .quiet (oNilCheck (.tmp 66)), []⟩,
                         ⟨2, some 68, none, .op .quiet (oFieldAddr 11 (.tmp 67)), []⟩,
                         ⟨3, some 69, none, .op .reads (oLoad (.tmp 68)), []⟩,
                         ⟨4, some 70, none, .op .quiet (oMv (.tmp 5)), []⟩,
                         ⟨5, some 71, none, .op .quiet (oMv (.tmp 7)), []⟩,
                         ⟨6, some 72, none, .op .quiet (oIdxS 1 (.tmp 70) (.tmp 71)), []⟩,
                         ⟨7, some 73, none, .op .reads (oLoad (.tmp 72)), []⟩,
                         ⟨8, some 74, none, .op .quiet (oIdxS 1 (.tmp 69) (.tmp 73)), []⟩,
                         ⟨9, none, none, .op .hard (oStore 1 (.tmp 74) (.val (.int .i64 (-1)))), []⟩])))
                     (.ops [⟨0, some 41, none, .op .quiet (oMv (.tmp 7)), []⟩,
                       ⟨1, some 42, none, .op .quiet (oArith .sub (.tmp 41) (.val (.int .i64 1))), []⟩,
                       ⟨2, some 7, none, .op .quiet (oMv (.tmp 42)), []⟩]))))))
                (.seq
                 (.ops [⟨0, some 76, none, .op .quiet (oMv (.tmp 0)), []⟩,
                   ⟨1, some 77, none, .op .quiet (oMv (.tmp 4)), []⟩,
                   ⟨2, some 78, none, .callF 176 [(.tmp 76), (.tmp 77)], []⟩,
                   ⟨3, some 75, none, .op .quiet (oMv (.tmp 78)), []⟩,
                   ⟨4, some 79, none, .op .quiet (oExtract 0 (.tmp 75)), []⟩,
                   ⟨5, some 80, none, .op .quiet (oExtract 1 (.tmp 75)), []⟩,
                   ⟨6, some 8, none, .op .quiet (oMv (.tmp 79)), []⟩,
                   ⟨7, some 9, none, .op .quiet (oMv (.tmp 80)), []⟩])
                 (.seq
                  (.drawn [⟨0, some 81, none, .op .quiet (oMv (.tmp 0)), []⟩,
                    ⟨1, some 82, none, .op .quiet (oNilCheck (.tmp 81)), []⟩,
                    ⟨2, some 83, none, .op .quiet (oFieldAddr 2 (.tmp 82)), []⟩,
                    ⟨3, some 84, none, .op .quiet (oFieldAddr 0 (.tmp 83)), []⟩,
                    ⟨4, some 85, none, .op .reads (oLoad (.tmp 84)), []⟩,
                    ⟨5, some 86, none, .op .quiet (oMv (.tmp 9)), []⟩,
                    ⟨6, some 87, none, .op .quiet (oIdxS 1 (.tmp 85) (.tmp 86)), []⟩,
                    ⟨7, some 88, none, .op .reads (oLoad (.tmp 87)), []⟩,
                    ⟨8, some 89, none, .op .quiet (oMv (.tmp 0)), []⟩,
                    ⟨9, some 90, none, .op .quiet (oNilCheck (.tmp 89)), []⟩,
                    ⟨10, some 91, none, .op .quiet (oFieldAddr 2 (.tmp 90)), []⟩,
                    ⟨11, some 92, none, .op .quiet (oFieldAddr 3 (.tmp 91)), []⟩,
                    ⟨12, some 93, none, .op .reads (oLoad (.tmp 92)), []⟩,
                    ⟨13, some 94, none, .op .quiet (oMv (.tmp 4)), []⟩,
                    ⟨14, some 95, none, .op .quiet (oIdxS 1 (.tmp 93) (.tmp 94)), []⟩,
                    ⟨15, some 96, none, .op .reads (oLoad (.tmp 95)), []⟩,
                    ⟨16, some 97, none, .op .quiet (oArith .neq (.tmp 88) (.tmp 96)), []⟩])
                  (.cond (.tmp 97)
                   (.ops [⟨0, some 98, none, .op .quiet (oMv (.tmp 3)), []⟩,
                     ⟨1, some 99, none, .op .quiet (oMv (.tmp 4)), []⟩,
                     ⟨2, some 100, none, .op .quiet (oMv (.tmp 0)), []⟩,
                     ⟨3, some 101, none, .op .quiet (oNilCheck (.tmp 100)), []⟩,
                     ⟨4, some 102, none, .op .quiet (oFieldAddr 12 (.tmp 101)), []⟩,
                     ⟨5, some 103, none, .op .reads (oLoad (.tmp 102)), []⟩,
                     ⟨6, some 104, none, .op .quiet (oMv (.tmp 4)), []⟩,
                     ⟨7, some 105, none, .op .quiet (oIdxS 1 (.tmp 103) (.tmp 104)), []⟩,
                     ⟨8, some 106, none, .op .reads (oLoad (.tmp 105)), []⟩,
                     ⟨9, some 107, none, .op .quiet (oIdxS 1 (.tmp 98) (.tmp 99)), []⟩,
                     ⟨10, none, none, .op .hard (oStore 1 (.tmp 107) (.tmp 106)), []⟩])
                   (.skip)))))))))
           (.ops [⟨0, some 108, none, .op .quiet (oArith .add (.tmp 19) (.val (.int .i64 1))), []⟩,
             ⟨1, some 19, none, .op .quiet (oMv (.tmp 108)), []⟩])))))))
     (.seq
      (.ops [⟨0, some 109, none, .op .quiet (oMv (.tmp 3)), []⟩,
        ⟨1, some 2, none, .op .quiet (oMv (.tmp 109)), []⟩])
      (.ret)))))⟩
/-- tangram/rot.caught -/
noncomputable def a116 : AF := ⟨[.cell 2, .cell 3],
 (.seq
   (.ops [⟨0, some 2, none, .op .quiet (oAlloc [(.int .i64 0)]), []⟩,
     ⟨1, some 3, none, .op .quiet (oAlloc [(.int .i64 0)]), []⟩])
   (.seq
    (.ops [⟨0, some 4, none, .op .quiet (oClos 202 [] [(.tmp 2), (.tmp 3)]), []⟩,
      ⟨1, none, none, .defer (.tmp 4) [], []⟩])
    (.seq
     (.ops [⟨0, some 5, none, .op .quiet (oMv (.tmp 0)), []⟩,
       ⟨1, some 6, none, .call (.tmp 5) [], []⟩])
     (.seq
      (.ops [⟨0, none, none, .op .hard (oStore 1 (.tmp 2) (.val (.int .i64 0))), []⟩,
        ⟨1, none, none, .op .hard (oStore 1 (.tmp 3) (.val (.int .i64 0))), []⟩])
      (.ret)))))⟩
/-- tangram/rot.Check$1 -/
noncomputable def a117 : AF := ⟨[],
 (.ops [⟨0, some 2, none, .op .reads (oLoadN 2 (.tmp 0)), []⟩,
    ⟨1, some 3, none, .op .reads (oLoad (.tmp 1)), []⟩,
    ⟨2, some 4, none, .callF 118 [(.tmp 2), (.tmp 3)], []⟩])⟩
/-- tangram/rot.check -/
noncomputable def a118 : AF := ⟨[],
 (.seq
   (.ops [⟨0, some 2, none, .op .quiet (oBox (.tmp 0)), []⟩])
   (.seq
    (.ops [⟨0, some 12, none, .op .reads (oLoadN 2 (.tmp 2)), []⟩,
      ⟨1, some 13, none, .callF 92 [(.tmp 12)], []⟩,
      ⟨2, some 14, none, .callF 203 [(.tmp 13), (.val (.int .i64 0)), (.val (.int .i64 1))], []⟩])
    (.seq
     (.ops [⟨0, some 15, none, .op .quiet (oMv (.tmp 1)), []⟩,
       ⟨1, some 16, none, .op .reads (oLen .slice (.tmp 15)), []⟩,
       ⟨2, some 17, none, .op .quiet (oFieldAddr 0 (.tmp 2)), []⟩,
       ⟨3, some 18, none, .op .reads (oLoad (.tmp 17)), []⟩,
       ⟨4, some 19, none, .op .quiet (oArith .eql (.tmp 16) (.tmp 18)), []⟩,
       ⟨5, some 20, none, .callF 203 [(.tmp 19), (.val (.int .i64 0)), (.val (.int .i64 110))], []⟩])
     (.seq
      (.ops [⟨0, some 22, none, .op .reads (oLoadN 2 (.tmp 2)), []⟩,
        ⟨1, some 23, none, .callF 204 [(.tmp 22)], []⟩,
        ⟨2, some 21, none, .op .quiet (oMv (.tmp 23)), []⟩,
        ⟨3, some 24, none, .op .quiet (oExtract 0 (.tmp 21)), []⟩,
        ⟨4, some 25, none, .op .quiet (oExtract 1 (.tmp 21)), []⟩,
        ⟨5, some 4, none, .op .quiet (oMv (.tmp 24)), []⟩,
        ⟨6, some 5, none, .op .quiet (oMv (.tmp 25)), []⟩])
      (.seq
       (.ops [⟨0, some 26, none, .op .reads (oLoadN 2 (.tmp 2)), []⟩,
         ⟨1, some 27, none, .callF 205 [(.tmp 26)], []⟩,
         ⟨2, some 6, none, .op .quiet (oMv (.tmp 27)), []⟩])
       (.seq
        (.ops [⟨0, some 28, none, .op .quiet (oMv (.tmp 6)), []⟩,
          ⟨1, some 29, none, .op .reads (oLen .slice (.tmp 28)), []⟩,
          ⟨2, some 30, none, .op .quiet (oMkSlice 1 1 [(.bool false)] (.tmp 29) (.tmp 29)), []⟩,
          ⟨3, some 7, none, .op .quiet (oMv (.tmp 30)), []⟩])
        (.seq
         (.ops [⟨0, some 31, none, .op .quiet (oMv (.tmp 1)), []⟩,
           ⟨1, some 32, none, .op .reads (oLen .slice (.tmp 31)), []⟩,
           ⟨2, some 33, none, .op .quiet (oMv (.val (.int .i64 0))), []⟩])
         (.block 0
          (.loop
           (.seq
            (.ops [⟨0, some 34, none, .op .quiet (oArith .lss (.tmp 33) (.tmp 32)), []⟩])
            (.seq
             (.cond (.tmp 34)
              (.skip)
              (.exit 0))
             (.seq
              (.block 1
               (.seq
                (.ops [⟨0, some 35, none, .op .quiet (oMv (.tmp 33)), []⟩,
                  ⟨1, some 36, none, .op .quiet (oIdxS 1 (.tmp 31) (.tmp 33)), []⟩,
                  ⟨2, some 37, none, .op .reads (oLoad (.tmp 36)), []⟩,
                  ⟨3, some 8, none, .op .quiet (oMv (.tmp 35)), []⟩,
                  ⟨4, some 9, none, .op .quiet (oMv (.tmp 37)), []⟩])
                (.seq
                 (.seq
                  (.ops [⟨0, some 38, none, .op .quiet (oMv (.tmp 9)), []⟩,
                    ⟨1, some 39, none, .op .reads (oLen .slice (.tmp 38)), []⟩,
                    ⟨2, some 40, none, .op .quiet (oMv (.val (.int .i64 0))), []⟩])
                  (.block 2
                   (.loop
                    (.seq
                     (.ops [⟨0, some 41, none, .op .quiet (oArith .lss (.tmp 40) (.tmp 39)), []⟩])
                     (.seq
                      (.cond (.tmp 41)
                       (.skip)
                       (.exit 2))
                      (.seq
                       (.block 3
                        (.seq
                         (.ops [⟨0, some 42, none, .op .quiet (oIdxS 1 (.tmp 38) (.tmp 40)), []⟩,
                           ⟨1, some 43, none, .op .reads (oLoad (.tmp 42)), []⟩,
                           ⟨2, some 11, none, .op .quiet (oMv (.tmp 43)), []⟩])
                         (.seq
                          (.ops [⟨0, some 44, none, .op .quiet (oMv (.tmp 11)), []⟩,
                            ⟨1, some 45, none, .op .quiet (oArith .geq (.tmp 44) (.val (.int .i64 0))), []⟩,
                            ⟨2, some 46, none, .op .quiet (oMv (.tmp 45)), []⟩,
                            ⟨3, some 47, some (46, true), .op .quiet (oMv (.tmp 11)), []⟩,
                            ⟨4, some 48, some (46, true), .op .quiet (oMv (.tmp 6)), []⟩,
                            ⟨5, some 49, some (46, true), .op .reads (oLen .slice (.tmp 48)), []⟩,
                            ⟨6, some 50, some (46, true), .op .quiet (oArith .lss (.tmp 47) (.tmp 49)), []⟩,
                            ⟨7, some 51, none, .op .quiet (oPick (.tmp 46) (.tmp 50) (.val (.bool false))), []⟩,
                            ⟨8, some 52, none, .op .quiet (oMv (.tmp 51)), []⟩,
                            ⟨9, some 53, some (52, true), .op .quiet (oMv (.tmp 6)), []⟩,
                            ⟨10, some 54, some (52, true), .op .quiet (oMv (.tmp 11)), []⟩,
                            ⟨11, some 55, some (52, true), .op .quiet (oIdxS 1 (.tmp 53) (.tmp 54)), []⟩,
                            ⟨12, some 56, some (52, true), .op .reads (oLoad (.tmp 55)), []⟩,
                            ⟨13, some 57, some (52, true), .op .quiet (oMv (.tmp 8)), []⟩,
                            ⟨14, some 58, some (52, true), .op .quiet (oArith .eql (.tmp 56) (.tmp 57)), []⟩,
                            ⟨15, some 59, none, .op .quiet (oPick (.tmp 52) (.tmp 58) (.val (.bool false))), []⟩,
                            ⟨16, some 60, none, .op .quiet (oMv (.tmp 8)), []⟩,
                            ⟨17, some 61, none, .callF 203 [(.tmp 59), (.tmp 60), (.val (.int .i64 111))], []⟩])
                          (.seq
                           (.ops [⟨0, some 62, none, .op .quiet (oMv (.tmp 7)), []⟩,
                             ⟨1, some 63, none, .op .quiet (oMv (.tmp 11)), []⟩,
                             ⟨2, some 64, none, .op .quiet (oIdxS 1 (.tmp 62) (.tmp 63)), []⟩,
                             ⟨3, some 65, none, .op .reads (oLoad (.tmp 64)), []⟩,
                             ⟨4, some 66, none, .op .quiet (oNot (.tmp 65)), []⟩,
                             ⟨5, some 67, none, .op .quiet (oMv (.tmp 8)), []⟩,
                             ⟨6, some 68, none, .callF 203 [(.tmp 66), (.tmp 67), (.val (.int .i64 112))], []⟩])
                           (.ops [⟨0, some 69, none, .op .quiet (oMv (.tmp 7)), []⟩,
                             ⟨1, some 70, none, .op .quiet (oMv (.tmp 11)), []⟩,
                             ⟨2, some 71, none, .op .quiet (oIdxS 1 (.tmp 69) (.tmp 70)), []⟩,
                             ⟨3, none, none, .op .hard (oStore 1 (.tmp 71) (.val (.bool true))), []⟩])))))
                       (.ops [⟨0, some 72, none, .op .quiet (oArith .add (.tmp 40) (.val (.int .i64 1))), []⟩,
                         ⟨1, some 40, none, .op .quiet (oMv (.tmp 72)), []⟩])))))))
                 (.ops [⟨0, some 73, none, .op .quiet (oMv (.tmp 9)), []⟩,
                   ⟨1, some 74, none, .op .reads (oLen .slice (.tmp 73)), []⟩,
                   ⟨2, some 75, none, .op .quiet (oMv (.tmp 4)), []⟩,
                   ⟨3, some 76, none, .op .quiet (oMv (.tmp 8)), []⟩,
                   ⟨4, some 77, none, .op .quiet (oIdxS 1 (.tmp 75) (.tmp 76)), []⟩,
                   ⟨5, some 78, none, .op .reads (oLoad (.tmp 77)), []⟩,
                   ⟨6, some 79, none, .op .quiet (oArith .eql (.tmp 74) (.tmp 78)), []⟩,
                   ⟨7, some 80, none, .op .quiet (oMv (.tmp 8)), []⟩,
                   ⟨8, some 81, none, .callF 203 [(.tmp 79), (.tmp 80), (.val (.int .i64 113))], []⟩]))))
              (.ops [⟨0, some 82, none, .op .quiet (oArith .add (.tmp 33) (.val (.int .i64 1))), []⟩,
                ⟨1, some 33, none, .op .quiet (oMv (.tmp 82)), []⟩])))))))))))))⟩
/-- tangram/faces.Genus -/
noncomputable def a119 : AF := ⟨[.tmp 4, .tmp 5],
 (.seq
   (.ops [⟨0, some 2, none, .op .quiet (oBox (.tmp 0)), []⟩,
     ⟨1, some 4, none, .op .quiet (oMv (.val (.int .i64 0))), []⟩,
     ⟨2, some 5, none, .op .quiet (oMv (.val (.int .i64 0))), []⟩])
   (.seq
    (.ops [⟨0, some 26, none, .op .reads (oLoadN 2 (.tmp 2)), []⟩,
      ⟨1, some 27, none, .op .quiet (oMv (.tmp 1)), []⟩,
      ⟨2, some 28, none, .callF 125 [(.tmp 26), (.tmp 27)], []⟩,
      ⟨3, some 25, none, .op .quiet (oMv (.tmp 28)), []⟩,
      ⟨4, some 29, none, .op .quiet (oExtract 0 (.tmp 25)), []⟩,
      ⟨5, some 30, none, .op .quiet (oExtract 1 (.tmp 25)), []⟩,
      ⟨6, some 6, none, .op .quiet (oMv (.tmp 29)), []⟩,
      ⟨7, some 7, none, .op .quiet (oMv (.tmp 30)), []⟩])
    (.seq
     (.seq
      (.ops [⟨0, some 31, none, .op .quiet (oMv (.tmp 7)), []⟩,
        ⟨1, some 32, none, .op .quiet (oArith .neq (.tmp 31) (.val (.int .i64 0))), []⟩])
      (.cond (.tmp 32)
       (.seq
        (.ops [⟨0, some 33, none, .op .quiet (oMv (.tmp 7)), []⟩,
          ⟨1, some 4, none, .op .quiet (oMv (.val (.int .i64 0))), []⟩,
          ⟨2, some 5, none, .op .quiet (oMv (.tmp 33)), []⟩])
        (.ret))
       (.skip)))
     (.seq
      (.ops [⟨0, some 35, none, .op .reads (oLoadN 2 (.tmp 2)), []⟩,
        ⟨1, some 36, none, .callF 126 [(.tmp 35)], []⟩,
        ⟨2, some 34, none, .op .quiet (oMv (.tmp 36)), []⟩,
        ⟨3, some 37, none, .op .quiet (oExtract 0 (.tmp 34)), []⟩,
        ⟨4, some 38, none, .op .quiet (oExtract 1 (.tmp 34)), []⟩,
        ⟨5, some 39, none, .op .quiet (oExtract 2 (.tmp 34)), []⟩,
        ⟨6, some 8, none, .op .quiet (oMv (.tmp 37)), []⟩,
        ⟨7, some 9, none, .op .quiet (oMv (.tmp 38)), []⟩,
        ⟨8, some 10, none, .op .quiet (oMv (.tmp 39)), []⟩])
      (.seq
       (.ops [⟨0, some 40, none, .op .quiet (oMkMap), []⟩,
         ⟨1, some 11, none, .op .quiet (oMv (.tmp 40)), []⟩])
       (.seq
        (.seq
         (.ops [⟨0, some 41, none, .op .quiet (oMv (.tmp 8)), []⟩,
           ⟨1, some 42, none, .op .reads (oLen .slice (.tmp 41)), []⟩,
           ⟨2, some 43, none, .op .quiet (oMv (.val (.int .i64 0))), []⟩])
         (.block 0
          (.loop
           (.seq
            (.ops [⟨0, some 44, none, .op .quiet (oArith .lss (.tmp 43) (.tmp 42)), []⟩])
            (.seq
             (.cond (.tmp 44)
              (.skip)
              (.exit 0))
             (.seq
              (.block 1
               (.seq
                (.ops [⟨0, some 45, none, .op .quiet (oIdxS 1 (.tmp 41) (.tmp 43)), []⟩,
                  ⟨1, some 46, none, .op .reads (oLoad (.tmp 45)), []⟩,
                  ⟨2, some 13, none, .op .quiet (oMv (.tmp 46)), []⟩])
                (.seq
                 (.ops [⟨0, some 47, none, .op .quiet (oMv (.tmp 11)), []⟩,
                   ⟨1, some 48, none, .op .quiet (oMv (.tmp 13)), []⟩,
                   ⟨2, some 49, none, .op .reads (oLookup (.int .i64) false (.agg #[(.int .i64 0), (.int .i64 0), (.int .i64 0)]) (.tmp 47) (.tmp 48)), []⟩,
                   ⟨3, some 14, none, .op .quiet (oAlloc [(.int .i64 0), (.int .i64 0), (.int .i64 0)]), []⟩,
                   ⟨4, none, none, .op .hard (oStore 3 (.tmp 14) (.tmp 49)), []⟩])
                 (.seq
                  (.ops [⟨0, some 50, none, .op .quiet (oFieldAddr 0 (.tmp 14)), []⟩,
                    ⟨1, some 51, none, .op .reads (oLoad (.tmp 50)), []⟩,
                    ⟨2, some 52, none, .op .quiet (oArith .add (.tmp 51) (.val (.int .i64 1))), []⟩,
                    ⟨3, some 53, none, .op .quiet (oFieldAddr 0 (.tmp 14)), []⟩,
                    ⟨4, none, none, .op .hard (oStore 1 (.tmp 53) (.tmp 52)), []⟩])
                  (.ops [⟨0, some 54, none, .op .quiet (oMv (.tmp 11)), []⟩,
                    ⟨1, some 55, none, .op .quiet (oMv (.tmp 13)), []⟩,
                    ⟨2, some 56, none, .op .reads (oLoadN 3 (.tmp 14)), []⟩,
                    ⟨3, none, none, .op .hard (oUpdate (.int .i64) (.tmp 54) (.tmp 55) (.tmp 56)), []⟩])))))
              (.ops [⟨0, some 57, none, .op .quiet (oArith .add (.tmp 43) (.val (.int .i64 1))), []⟩,
                ⟨1, some 43, none, .op .quiet (oMv (.tmp 57)), []⟩])))))))
        (.seq
         (.seq
          (.ops [⟨0, some 58, none, .op .quiet (oFieldAddr 1 (.tmp 2)), []⟩,
            ⟨1, some 59, none, .op .reads (oLoad (.tmp 58)), []⟩,
            ⟨2, some 60, none, .op .reads (oLen .slice (.tmp 59)), []⟩,
            ⟨3, some 61, none, .op .quiet (oMv (.val (.int .i64 0))), []⟩])
          (.block 2
           (.loop
            (.seq
             (.ops [⟨0, some 62, none, .op .quiet (oArith .lss (.tmp 61) (.tmp 60)), []⟩])
             (.seq
              (.cond (.tmp 62)
               (.skip)
               (.exit 2))
              (.seq
               (.block 3
                (.seq
                 (.ops [⟨0, some 63, none, .op .quiet (oIdxS 2 (.tmp 59) (.tmp 61)), []⟩,
                   ⟨1, some 64, none, .op .reads (oLoadN 2 (.tmp 63)), []⟩,
                   ⟨2, some 16, none, .op .quiet (oAlloc [(.int .i64 0), (.int .i64 0)]), []⟩,
                   ⟨3, none, none, .op .hard (oStore 2 (.tmp 16) (.tmp 64)), []⟩])
                 (.seq
                  (.ops [⟨0, some 65, none, .op .quiet (oMv (.tmp 11)), []⟩,
                    ⟨1, some 66, none, .op .quiet (oMv (.tmp 8)), []⟩,
                    ⟨2, some 67, none, .op .quiet (oFieldAddr 0 (.tmp 16)), []⟩,
                    ⟨3, some 68, none, .op .reads (oLoad (.tmp 67)), []⟩,
                    ⟨4, some 69, none, .op .quiet (oIdxS 1 (.tmp 66) (.tmp 68)), []⟩,
                    ⟨5, some 70, none, .op .reads (oLoad (.tmp 69)), []⟩,
                    ⟨6, some 71, none, .op .reads (oLookup (.int .i64) false (.agg #[(.int .i64 0), (.int .i64 0), (.int .i64 0)]) (.tmp 65) (.tmp 70)), []⟩,
                    ⟨7, some 17, none, .op .quiet (oAlloc [(.int .i64 0), (.int .i64 0), (.int .i64 0)]), []⟩,
                    ⟨8, none, none, .op .hard (oStore 3 (.tmp 17) (.tmp 71)), []⟩])
                  (.seq
                   (.ops [⟨0, some 72, none, .op .quiet (oFieldAddr 1 (.tmp 17)), []⟩,
                     ⟨1, some 73, none, .op .reads (oLoad (.tmp 72)), []⟩,
                     ⟨2, some 74, none, .op .quiet (oArith .add (.tmp 73) (.val (.int .i64 1))), []⟩,
                     ⟨3, some 75, none, .op .quiet (oFieldAddr 1 (.tmp 17)), []⟩,
                     ⟨4, none, none, .op .hard (oStore 1 (.tmp 75) (.tmp 74)), []⟩])
                   (.drawn [⟨0, some 76, none, .op .quiet (oMv (.tmp 11)), []⟩,
                     ⟨1, some 77, none, .op .quiet (oMv (.tmp 8)), []⟩,
                     ⟨2, some 78, none, .op .quiet (oFieldAddr 0 (.tmp 16)), []⟩,
                     ⟨3, some 79, none, .op .reads (oLoad (.tmp 78)), []⟩,
                     ⟨4, some 80, none, .op .quiet (oIdxS 1 (.tmp 77) (.tmp 79)), []⟩,
                     ⟨5, some 81, none, .op .reads (oLoad (.tmp 80)), []⟩,
                     ⟨6, some 82, none, .op .reads (oLoadN 3 (.tmp 17)), []⟩,
                     ⟨7, none, none, .op .hard (oUpdate (.int .i64) (.tmp 76) (.tmp 81) (.tmp 82)), []⟩])))))
               (.ops [⟨0, some 83, none, .op .quiet (oArith .add (.tmp 61) (.val (.int .i64 1))), []⟩,
                 ⟨1, some 61, none, .op .quiet (oMv (.tmp 83)), []⟩])))))))
         (.seq
          (.seq
           (.ops [⟨0, some 84, none, .op .quiet (oMv (.tmp 6)), []⟩,
             ⟨1, some 85, none, .op .reads (oLen .slice (.tmp 84)), []⟩,
             ⟨2, some 86, none, .op .quiet (oMv (.val (.int .i64 0))), []⟩])
           (.block 4
            (.loop
             (.seq
              (.ops [⟨0, some 87, none, .op .quiet (oArith .lss (.tmp 86) (.tmp 85)), []⟩])
              (.seq
               (.cond (.tmp 87)
                (.skip)
                (.exit 4))
               (.seq
                (.block 5
                 (.seq
                  (.ops [⟨0, some 88, none, .op .quiet (oIdxS 1 (.tmp 84) (.tmp 86)), []⟩,
                    ⟨1, some 89, none, .op .reads (oLoad (.tmp 88)), []⟩,
                    ⟨2, some 19, none, .op .quiet (oMv (.tmp 89)), []⟩])
                  (.seq
                   (.drawn [⟨0, some 90, none, .op .quiet (oMv (.tmp 8)), []⟩,
                     ⟨1, some 91, none, .op .quiet (oFieldAddr 1 (.tmp 2)), []⟩,
                     ⟨2, some 92, none, .op .reads (oLoad (.tmp 91)), []⟩,
                     ⟨3, some 93, none, .op .quiet (oMv (.tmp 19)), []⟩,
                     ⟨4, some 94, none, .op .quiet (oIdxS 1 (.tmp 93) (.val (.int .i64 0))), []⟩,
                     ⟨5, some 95, none, .op .reads (oLoad (.tmp 94)), []⟩,
                     ⟨6, some 96, none, .op .quiet (oArith .quo (.tmp 95) (.val (.int .i64 2))), []⟩,
                     ⟨7, some 97, none, .op .quiet (oIdxS 2 (.tmp 92) (.tmp 96)), []⟩,
                     ⟨8, some 98, none, .op .quiet (oFieldAddr 0 (.tmp 97)), []⟩,
                     ⟨9, some 99, none, .op .reads (oLoad (.tmp 98)), []⟩,
                     ⟨10, some 100, none, .op .quiet (oIdxS 1 (.tmp 90) (.tmp 99)), []⟩,
                     ⟨11, some 101, none, .op .reads (oLoad (.tmp 100)), []⟩,
                     ⟨12, some 20, none, .op .quiet (oMv (.tmp 101)), []⟩])
                   (.seq
                    (.ops [⟨0, some 102, none, .op .quiet (oMv (.tmp 11)), []⟩,
                      ⟨1, some 103, none, .op .quiet (oMv (.tmp 20)), []⟩,
                      ⟨2, some 104, none, .op .reads (oLookup (.int .i64) false (.agg #[(.int .i64 0), (.int .i64 0), (.int .i64 0)]) (.tmp 102) (.tmp 103)), []⟩,
                      ⟨3, some 21, none, .op .quiet (oAlloc [(.int .i64 0), (.int .i64 0), (.int .i64 0)]), []⟩,
                      ⟨4, none, none, .op .hard (oStore 3 (.tmp 21) (.tmp 104)), []⟩])
                    (.seq
                     (.ops [⟨0, some 105, none, .op .quiet (oFieldAddr 2 (.tmp 21)), []⟩,
                       ⟨1, some 106, none, .op .reads (oLoad (.tmp 105)), []⟩,
                       ⟨2, some 107, none, .op .quiet (oArith .add (.tmp 106) (.val (.int .i64 1))), []⟩,
                       ⟨3, some 108, none, .op .quiet (oFieldAddr 2 (.tmp 21)), []⟩,
                       ⟨4, none, none, .op .hard (oStore 1 (.tmp 108) (.tmp 107)), []⟩])
                     (.ops [⟨0, some 109, none, .op .quiet (oMv (.tmp 11)), []⟩,
                       ⟨1, some 110, none, .op .quiet (oMv (.tmp 20)), []⟩,
                       ⟨2, some 111, none, .op .reads (oLoadN 3 (.tmp 21)), []⟩,
                       ⟨3, none, none, .op .hard (oUpdate (.int .i64) (.tmp 109) (.tmp 110) (.tmp 111)), []⟩]))))))
                (.ops [⟨0, some 112, none, .op .quiet (oArith .add (.tmp 86) (.val (.int .i64 1))), []⟩,
                  ⟨1, some 86, none, .op .quiet (oMv (.tmp 112)), []⟩])))))))
          (.seq
           (.ops [⟨0, some 22, none, .op .quiet (oMv (.val (.int .i64 0))), []⟩])
           (.seq
            (.seq
             (.ops [⟨0, some 113, none, .op .quiet (oMv (.tmp 11)), []⟩,
               ⟨1, some 114, none, .op .hard (oRange (.tmp 113)), []⟩])
             (.block 6
              (.loop
               (.seq
                (.ops [⟨0, some 115, none, .op .hard (oNext (.tmp 114)), []⟩,
                  ⟨1, some 116, none, .op .quiet (oExtract 0 (.tmp 115)), []⟩])
                (.seq
                 (.cond (.tmp 116)
                  (.skip)
                  (.exit 6))
                 (.block 7
                  (.seq
                   (.ops [⟨0, some 117, none, .op .hard (oEntry (.tmp 114)), []⟩,
                     ⟨1, some 118, none, .op .quiet (oExtract 1 (.tmp 117)), []⟩,
                     ⟨2, some 24, none, .op .quiet (oAlloc [(.int .i64 0), (.int .i64 0), (.int .i64 0)]), []⟩,
                     ⟨3, none, none, .op .hard (oStore 3 (.tmp 24) (.tmp 118)), []⟩])
                   (.seq
                    (.ops [⟨0, some 119, none, .op .quiet (oFieldAddr 1 (.tmp 24)), []⟩,
                      ⟨1, some 120, none, .op .reads (oLoad (.tmp 119)), []⟩,
                      ⟨2, some 121, none, .op .quiet (oArith .gtr (.tmp 120) (.val (.int .i64 0))), []⟩])
                    (.cond (.tmp 121)
                     (.ops [⟨0, some 122, none, .op .quiet (oMv (.tmp 22)), []⟩,
                       ⟨1, some 123, none, .op .quiet (oFieldAddr 0 (.tmp 24)), []⟩,
                       ⟨2, some 124, none, .op .reads (oLoad (.tmp 123)), []⟩,
                       ⟨3, some 125, none, .op .quiet (oArith .sub (.val (.int .i64 2)) (.tmp 124)), []⟩,
                       ⟨4, some 126, none, .op .quiet (oFieldAddr 1 (.tmp 24)), []⟩,
                       ⟨5, some 127, none, .op .reads (oLoad (.tmp 126)), []⟩,
                       ⟨6, some 128, none, .op .quiet (oArith .add (.tmp 125) (.tmp 127)), []⟩,
                       ⟨7, some 129, none, .op .quiet (oFieldAddr 2 (.tmp 24)), []⟩,
                       ⟨8, some 130, none, .op .reads (oLoad (.tmp 129)), []⟩,
                       ⟨9, some 131, none, .op .quiet (oArith .sub (.tmp 128) (.tmp 130)), []⟩,
                       ⟨10, some 132, none, .op .quiet (oArith .quo (.tmp 131) (.val (.int .i64 2))), []⟩,
                       ⟨11, some 133, none, .op .quiet (oArith .add (.tmp 122) (.tmp 132)), []⟩,
                       ⟨12, some 22, none, .op .quiet (oMv (.tmp 133)), []⟩])
                     (.skip))))))))))
            (.seq
             (.ops [⟨0, some 134, none, .op .quiet (oMv (.tmp 22)), []⟩,
               ⟨1, some 4, none, .op .quiet (oMv (.tmp 134)), []⟩,
               ⟨2, some 5, none, .op .quiet (oMv (.val (.int .i64 0))), []⟩])
             (.ret))))))))))))⟩
/-- tangram/faces.Of -/
noncomputable def a125 : AF := ⟨[.tmp 4, .tmp 5],
 (.seq
   (.ops [⟨0, some 2, none, .op .quiet (oBox (.tmp 0)), []⟩,
     ⟨1, some 4, none, .op .quiet (oMv (.val (.slice none 0 0))), []⟩,
     ⟨2, some 5, none, .op .quiet (oMv (.val (.int .i64 0))), []⟩])
   (.seq
    (.ops [⟨0, some 14, none, .op .reads (oLoadN 2 (.tmp 2)), []⟩,
      ⟨1, some 15, none, .op .quiet (oMv (.tmp 1)), []⟩,
      ⟨2, some 16, none, .callF 255 [(.tmp 14), (.tmp 15)], []⟩,
      ⟨3, some 13, none, .op .quiet (oMv (.tmp 16)), []⟩,
      ⟨4, some 17, none, .op .quiet (oExtract 0 (.tmp 13)), []⟩,
      ⟨5, some 18, none, .op .quiet (oExtract 1 (.tmp 13)), []⟩,
      ⟨6, some 6, none, .op .quiet (oMv (.tmp 17)), []⟩,
      ⟨7, some 7, none, .op .quiet (oMv (.tmp 18)), []⟩])
    (.seq
     (.seq
      (.ops [⟨0, some 19, none, .op .quiet (oMv (.tmp 7)), []⟩,
        ⟨1, some 20, none, .op .quiet (oArith .neq (.tmp 19) (.val (.int .i64 0))), []⟩])
      (.cond (.tmp 20)
       (.seq
        (.ops [⟨0, some 21, none, .op .quiet (oMv (.tmp 7)), []⟩,
          ⟨1, some 4, none, .op .quiet (oMv (.val (.slice none 0 0))), []⟩,
          ⟨2, some 5, none, .op .quiet (oMv (.tmp 21)), []⟩])
        (.ret))
       (.skip)))
     (.seq
      (.ops [⟨0, some 22, none, .op .quiet (oMv (.tmp 6)), []⟩,
        ⟨1, some 23, none, .op .reads (oLen .slice (.tmp 22)), []⟩,
        ⟨2, some 24, none, .op .quiet (oMkSlice 1 1 [(.bool false)] (.tmp 23) (.tmp 23)), []⟩,
        ⟨3, some 8, none, .op .quiet (oMv (.tmp 24)), []⟩])
      (.seq
       (.ops [⟨0, some 9, none, .op .quiet (oMv (.val (.slice none 0 0))), []⟩])
       (.seq
        (.seq
         (.ops [⟨0, some 25, none, .op .quiet (oMv (.tmp 6)), []⟩,
           ⟨1, some 26, none, .op .reads (oLen .slice (.tmp 25)), []⟩,
           ⟨2, some 27, none, .op .quiet (oMv (.val (.int .i64 0))), []⟩])
         (.block 0
          (.loop
           (.seq
            (.ops [⟨0, some 28, none, .op .quiet (oArith .lss (.tmp 27) (.tmp 26)), []⟩])
            (.seq
             (.cond (.tmp 28)
              (.skip)
              (.exit 0))
             (.seq
              (.block 1
               (.seq
                (.ops [⟨0, some 29, none, .op .quiet (oMv (.tmp 27)), []⟩,
                  ⟨1, some 10, none, .op .quiet (oMv (.tmp 29)), []⟩])
                (.seq
                 (.ops [⟨0, some 11, none, .op .quiet (oMv (.val (.slice none 0 0))), []⟩])
                 (.seq
                  (.seq
                   (.ops [⟨0, some 30, none, .op .quiet (oMv (.tmp 10)), []⟩,
                     ⟨1, some 12, none, .op .quiet (oMv (.tmp 30)), []⟩])
                   (.block 2
                    (.loop
                     (.seq
                      (.seq
                       (.ops [⟨0, some 31, none, .op .quiet (oMv (.tmp 8)), []⟩,
                         ⟨1, some 32, none, .op .quiet (oMv (.tmp 12)), []⟩,
                         ⟨2, some 33, none, .op .quiet (oIdxS 1 (.tmp 31) (.tmp 32)), []⟩,
                         ⟨3, some 34, none, .op .reads (oLoad (.tmp 33)), []⟩,
                         ⟨4, some 35, none, .op .quiet (oNot (.tmp 34)), []⟩])
                       (.cond (.tmp 35)
                        (.skip)
                        (.exit 2)))
                      (.seq
                       (.block 3
                        (.seq
                         (.ops [⟨0, some 41, none, .op .quiet (oMv (.tmp 8)), []⟩,
                           ⟨1, some 42, none, .op .quiet (oMv (.tmp 12)), []⟩,
                           ⟨2, some 43, none, .op .quiet (oIdxS 1 (.tmp 41) (.tmp 42)), []⟩,
                           ⟨3, none, none, .op .hard (oStore 1 (.tmp 43) (.val (.bool true))), []⟩])
                         (.ops [⟨0, some 44, none, .op .quiet (oMv (.tmp 11)), []⟩,
                           ⟨1, some 45, none, .op .quiet (oMv (.tmp 12)), []⟩,
                           ⟨2, some 46, none, .op .quiet (oBuildSlice 1 1 [(.int .i64 0)] [(0, 1)] [(.tmp 45)]), []⟩,
                           ⟨3, some 47, none, .op .hard (oAppend 1 8 (.tmp 44) (.tmp 46)), []⟩,
                           ⟨4, some 11, none, .op .quiet (oMv (.tmp 47)), []⟩])))
                       (.ops [⟨0, some 36, none, .op .quiet (oMv (.tmp 6)), []⟩,
                         ⟨1, some 37, none, .op .quiet (oMv (.tmp 12)), []⟩,
                         ⟨2, some 38, none, .op .quiet (oArith .xor (.tmp 37) (.val (.int .i64 1))), []⟩,
                         ⟨3, some 39, none, .op .quiet (oIdxS 1 (.tmp 36) (.tmp 38)), []⟩,
                         ⟨4, some 40, none, .op .reads (oLoad (.tmp 39)), []⟩,
                         ⟨5, some 12, none, .op .quiet (oMv (.tmp 40)), []⟩]))))))
                  (.seq
                   (.ops [⟨0, some 48, none, .op .quiet (oMv (.tmp 11)), []⟩,
                     ⟨1, some 49, none, .op .reads (oLen .slice (.tmp 48)), []⟩,
                     ⟨2, some 50, none, .op .quiet (oArith .gtr (.tmp 49) (.val (.int .i64 0))), []⟩])
                   (.cond (.tmp 50)
                    (.ops [⟨0, some 51, none, .op .quiet (oMv (.tmp 9)), []⟩,
                      ⟨1, some 52, none, .op .quiet (oMv (.tmp 11)), []⟩,
                      ⟨2, some 53, none, .op .quiet (oBuildSlice 1 1 [(.slice none 0 0)] [(0, 1)] [(.tmp 52)]), []⟩,
                      ⟨3, some 54, none, .op .hard (oAppend 1 24 (.tmp 51) (.tmp 53)), []⟩,
                      ⟨4, some 9, none, .op .quiet (oMv (.tmp 54)), []⟩])
                    (.skip)))))))
              (.ops [⟨0, some 55, none, .op .quiet (oArith .add (.tmp 27) (.val (.int .i64 1))), []⟩,
                ⟨1, some 27, none, .op .quiet (oMv (.tmp 55)), []⟩])))))))
        (.seq
         (.ops [⟨0, some 56, none, .op .quiet (oMv (.tmp 9)), []⟩,
           ⟨1, some 4, none, .op .quiet (oMv (.tmp 56)), []⟩,
           ⟨2, some 5, none, .op .quiet (oMv (.val (.int .i64 0))), []⟩])
         (.ret))))))))⟩
/-- tangram/comps.Of -/
noncomputable def a126 : AF := ⟨[.tmp 2, .tmp 3, .tmp 4],
 (.seq
   (.ops [⟨0, some 1, none, .op .quiet (oBox (.tmp 0)), []⟩,
     ⟨1, some 2, none, .op .quiet (oMv (.val (.slice none 0 0))), []⟩,
     ⟨2, some 3, none, .op .quiet (oMv (.val (.int .i64 0))), []⟩,
     ⟨3, some 4, none, .op .quiet (oMv (.val (.int .i64 0))), []⟩])
   (.seq
    (.seq
     (.ops [⟨0, some 11, none, .op .reads (oLoadN 2 (.tmp 1)), []⟩,
       ⟨1, some 12, none, .callF 92 [(.tmp 11)], []⟩,
       ⟨2, some 13, none, .op .quiet (oNot (.tmp 12)), []⟩])
     (.cond (.tmp 13)
      (.seq
       (.ops [⟨0, some 2, none, .op .quiet (oMv (.val (.slice none 0 0))), []⟩,
         ⟨1, some 3, none, .op .quiet (oMv (.val (.int .i64 0))), []⟩,
         ⟨2, some 4, none, .op .quiet (oMv (.val (.int .i64 1))), []⟩])
       (.ret))
      (.skip)))
    (.seq
     (.ops [⟨0, some 15, none, .op .quiet (oFieldAddr 0 (.tmp 1)), []⟩,
       ⟨1, some 16, none, .op .reads (oLoad (.tmp 15)), []⟩,
       ⟨2, some 17, none, .callF 256 [(.tmp 16)], []⟩,
       ⟨3, some 14, none, .op .quiet (oMv (.tmp 17)), []⟩,
       ⟨4, some 18, none, .op .quiet (oExtract 0 (.tmp 14)), []⟩,
       ⟨5, some 19, none, .op .quiet (oExtract 1 (.tmp 14)), []⟩,
       ⟨6, some 5, none, .op .quiet (oMv (.tmp 18)), []⟩,
       ⟨7, some 6, none, .op .quiet (oMv (.tmp 19)), []⟩])
     (.seq
      (.seq
       (.ops [⟨0, some 20, none, .op .quiet (oFieldAddr 1 (.tmp 1)), []⟩,
         ⟨1, some 21, none, .op .reads (oLoad (.tmp 20)), []⟩,
         ⟨2, some 22, none, .op .reads (oLen .slice (.tmp 21)), []⟩,
         ⟨3, some 23, none, .op .quiet (oMv (.val (.int .i64 0))), []⟩])
       (.block 0
        (.loop
         (.seq
          (.ops [⟨0, some 24, none, .op .quiet (oArith .lss (.tmp 23) (.tmp 22)), []⟩])
          (.seq
           (.cond (.tmp 24)
            (.skip)
            (.exit 0))
           (.seq
            (.block 1
             (.seq
              (.ops [⟨0, some 25, none, .op .quiet (oIdxS 2 (.tmp 21) (.tmp 23)), []⟩,
                ⟨1, some 26, none, .op .reads (oLoadN 2 (.tmp 25)), []⟩,
                ⟨2, some 8, none, .op .quiet (oAlloc [(.int .i64 0), (.int .i64 0)]), []⟩,
                ⟨3, none, none, .op .hard (oStore 2 (.tmp 8) (.tmp 26)), []⟩])
              (.ops [⟨0, some 27, none, .op .quiet (oMv (.tmp 5)), []⟩,
                ⟨1, some 28, none, .op .quiet (oFieldAddr 0 (.tmp 8)), []⟩,
                ⟨2, some 29, none, .op .reads (oLoad (.tmp 28)), []⟩,
                ⟨3, some 30, none, .op .quiet (oFieldAddr 1 (.tmp 8)), []⟩,
                ⟨4, some 31, none, .op .reads (oLoad (.tmp 30)), []⟩,
                ⟨5, some 32, none, .callF 257 [(.tmp 27), (.tmp 29), (.tmp 31)], []⟩])))
            (.ops [⟨0, some 33, none, .op .quiet (oArith .add (.tmp 23) (.val (.int .i64 1))), []⟩,
              ⟨1, some 23, none, .op .quiet (oMv (.tmp 33)), []⟩])))))))
      (.seq
       (.ops [⟨0, some 35, none, .op .quiet (oMv (.tmp 5)), []⟩,
         ⟨1, some 36, none, .callF 258 [(.tmp 35)], []⟩,
         ⟨2, some 34, none, .op .quiet (oMv (.tmp 36)), []⟩,
         ⟨3, some 37, none, .op .quiet (oExtract 0 (.tmp 34)), []⟩,
         ⟨4, some 38, none, .op .quiet (oExtract 1 (.tmp 34)), []⟩,
         ⟨5, some 9, none, .op .quiet (oMv (.tmp 37)), []⟩,
         ⟨6, some 10, none, .op .quiet (oMv (.tmp 38)), []⟩])
       (.seq
        (.ops [⟨0, some 39, none, .op .quiet (oMv (.tmp 9)), []⟩,
          ⟨1, some 40, none, .op .quiet (oMv (.tmp 10)), []⟩,
          ⟨2, some 2, none, .op .quiet (oMv (.tmp 39)), []⟩,
          ⟨3, some 3, none, .op .quiet (oMv (.tmp 40)), []⟩,
          ⟨4, some 4, none, .op .quiet (oMv (.val (.int .i64 0))), []⟩])
        (.ret)))))))⟩
/-- tangram/rot.Around -/
noncomputable def a131 : AF := ⟨[.tmp 4, .tmp 5],
 (.seq
   (.ops [⟨0, some 2, none, .op .quiet (oBox (.tmp 0)), []⟩,
     ⟨1, some 4, none, .op .quiet (oMv (.val (.slice none 0 0))), []⟩,
     ⟨2, some 5, none, .op .quiet (oMv (.val (.int .i64 0))), []⟩])
   (.seq
    (.seq
     (.ops [⟨0, some 15, none, .op .reads (oLoadN 2 (.tmp 2)), []⟩,
       ⟨1, some 16, none, .op .quiet (oMv (.tmp 1)), []⟩,
       ⟨2, some 17, none, .callF 53 [(.tmp 15), (.tmp 16)], []⟩,
       ⟨3, some 14, none, .op .quiet (oMv (.tmp 17)), []⟩,
       ⟨4, some 18, none, .op .quiet (oExtract 0 (.tmp 14)), []⟩,
       ⟨5, some 19, none, .op .quiet (oExtract 1 (.tmp 14)), []⟩,
       ⟨6, some 6, none, .op .quiet (oMv (.tmp 18)), []⟩,
       ⟨7, some 7, none, .op .quiet (oMv (.tmp 19)), []⟩])
     (.seq
      (.ops [⟨0, some 20, none, .op .quiet (oMv (.tmp 7)), []⟩,
        ⟨1, some 21, none, .op .quiet (oArith .neq (.tmp 20) (.val (.int .i64 0))), []⟩])
      (.cond (.tmp 21)
       (.seq
        (.ops [⟨0, some 22, none, .op .quiet (oMv (.tmp 7)), []⟩,
          ⟨1, some 4, none, .op .quiet (oMv (.val (.slice none 0 0))), []⟩,
          ⟨2, some 5, none, .op .quiet (oMv (.tmp 22)), []⟩])
        (.ret))
       (.skip))))
    (.seq
     (.ops [⟨0, some 23, none, .op .reads (oLoadN 2 (.tmp 2)), []⟩,
       ⟨1, some 24, none, .callF 205 [(.tmp 23)], []⟩,
       ⟨2, some 8, none, .op .quiet (oMv (.tmp 24)), []⟩])
     (.seq
      (.ops [⟨0, some 25, none, .op .quiet (oMv (.tmp 1)), []⟩,
        ⟨1, some 26, none, .op .reads (oLen .slice (.tmp 25)), []⟩,
        ⟨2, some 27, none, .op .quiet (oMkSlice 1 24 [(.slice none 0 0)] (.tmp 26) (.tmp 26)), []⟩,
        ⟨3, some 9, none, .op .quiet (oMv (.tmp 27)), []⟩])
      (.seq
       (.seq
        (.ops [⟨0, some 28, none, .op .quiet (oMv (.tmp 1)), []⟩,
          ⟨1, some 29, none, .op .reads (oLen .slice (.tmp 28)), []⟩,
          ⟨2, some 30, none, .op .quiet (oMv (.val (.int .i64 0))), []⟩])
        (.block 0
         (.loop
          (.seq
           (.ops [⟨0, some 31, none, .op .quiet (oArith .lss (.tmp 30) (.tmp 29)), []⟩])
           (.seq
            (.cond (.tmp 31)
             (.skip)
             (.exit 0))
            (.seq
             (.block 1
              (.seq
               (.ops [⟨0, some 32, none, .op .quiet (oMv (.tmp 30)), []⟩,
                 ⟨1, some 33, none, .op .quiet (oIdxS 1 (.tmp 28) (.tmp 30)), []⟩,
                 ⟨2, some 34, none, .op .reads (oLoad (.tmp 33)), []⟩,
                 ⟨3, some 10, none, .op .quiet (oMv (.tmp 32)), []⟩,
                 ⟨4, some 11, none, .op .quiet (oMv (.tmp 34)), []⟩])
               (.seq
                (.ops [⟨0, some 35, none, .op .quiet (oMv (.tmp 11)), []⟩,
                  ⟨1, some 36, none, .op .reads (oLen .slice (.tmp 35)), []⟩,
                  ⟨2, some 37, none, .op .quiet (oMv (.val (.int .i64 0))), []⟩])
                (.block 2
                 (.loop
                  (.seq
                   (.ops [⟨0, some 38, none, .op .quiet (oArith .lss (.tmp 37) (.tmp 36)), []⟩])
                   (.seq
                    (.cond (.tmp 38)
                     (.skip)
                     (.exit 2))
                    (.seq
                     (.block 3
                      (.seq
                       (.ops [⟨0, some 39, none, .op .quiet (oIdxS 1 (.tmp 35) (.tmp 37)), []⟩,
                         ⟨1, some 40, none, .op .reads (oLoad (.tmp 39)), []⟩,
                         ⟨2, some 13, none, .op .quiet (oMv (.tmp 40)), []⟩])
                       (.drawn [⟨0, some 41, none, .op .quiet (oMv (.tmp 9)), []⟩,
                         ⟨1, some 42, none, .op .quiet (oMv (.tmp 10)), []⟩,
                         ⟨2, some 43, none, .op .quiet (oMv (.tmp 9)), []⟩,
                         ⟨3, some 44, none, .op .quiet (oMv (.tmp 10)), []⟩,
                         ⟨4, some 45, none, .op .quiet (oIdxS 1 (.tmp 43) (.tmp 44)), []⟩,
                         ⟨5, some 46, none, .op .reads (oLoad (.tmp 45)), []⟩,
                         ⟨6, some 47, none, .op .quiet (oMv (.tmp 8)), []⟩,
                         ⟨7, some 48, none, .op .quiet (oMv (.tmp 13)), []⟩,
                         ⟨8, some 49, none, .op .quiet (oArith .xor (.tmp 48) (.val (.int .i64 1))), []⟩,
                         ⟨9, some 50, none, .op .quiet (oIdxS 1 (.tmp 47) (.tmp 49)), []⟩,
                         ⟨10, some 51, none, .op .reads (oLoad (.tmp 50)), []⟩,
                         ⟨11, some 52, none, .op .quiet (oBuildSlice 1 1 [(.int .i64 0)] [(0, 1)] [(.tmp 51)]), []⟩,
                         ⟨12, some 53, none, .op .hard (oAppend 1 8 (.tmp 46) (.tmp 52)), []⟩,
                         ⟨13, some 54, none, .op .quiet (oIdxS 1 (.tmp 41) (.tmp 42)), []⟩,
                         ⟨14, none, none, .op .hard (oStore 1 (.tmp 54) (.tmp 53)), []⟩])))
                     (.ops [⟨0, some 55, none, .op .quiet (oArith .add (.tmp 37) (.val (.int .i64 1))), []⟩,
                       ⟨1, some 37, none, .op .quiet (oMv (.tmp 55)), []⟩])))))))))
             (.ops [⟨0, some 56, none, .op .quiet (oArith .add (.tmp 30) (.val (.int .i64 1))), []⟩,
               ⟨1, some 30, none, .op .quiet (oMv (.tmp 56)), []⟩])))))))
       (.seq
        (.ops [⟨0, some 57, none, .op .quiet (oMv (.tmp 9)), []⟩,
          ⟨1, some 4, none, .op .quiet (oMv (.tmp 57)), []⟩,
          ⟨2, some 5, none, .op .quiet (oMv (.val (.int .i64 0))), []⟩])
        (.ret)))))))⟩
/-- tangram/tangramlaw25.complete -/
noncomputable def a144 : AF := ⟨[.cellN 2 2],
 (.seq
   (.ops [⟨0, some 2, none, .op .quiet (oAlloc [(.int .i64 0), (.slice none 0 0)]), []⟩])
   (.seq
    (.ops [⟨0, some 6, none, .op .quiet (oMv (.tmp 0)), []⟩,
      ⟨1, some 7, none, .op .quiet (oBuild [(.int .i64 0), (.slice none 0 0)] [(0, 1)] [(.tmp 6)]), []⟩,
      ⟨2, some 3, none, .op .quiet (oAlloc [(.int .i64 0), (.slice none 0 0)]), []⟩,
      ⟨3, none, none, .op .hard (oStore 2 (.tmp 3) (.tmp 7)), []⟩])
    (.seq
     (.seq
      (.ops [⟨0, some 4, none, .op .quiet (oMv (.val (.int .i64 0))), []⟩])
      (.block 0
       (.loop
        (.seq
         (.seq
          (.ops [⟨0, some 8, none, .op .quiet (oMv (.tmp 4)), []⟩,
            ⟨1, some 9, none, .op .quiet (oMv (.tmp 0)), []⟩,
            ⟨2, some 10, none, .op .quiet (oArith .lss (.tmp 8) (.tmp 9)), []⟩])
          (.cond (.tmp 10)
           (.skip)
           (.exit 0)))
         (.seq
          (.block 1
           (.seq
            (.ops [⟨0, some 13, none, .op .quiet (oMv (.tmp 4)), []⟩,
              ⟨1, some 14, none, .op .quiet (oArith .add (.tmp 13) (.val (.int .i64 1))), []⟩,
              ⟨2, some 5, none, .op .quiet (oMv (.tmp 14)), []⟩])
            (.block 2
             (.loop
              (.seq
               (.seq
                (.ops [⟨0, some 15, none, .op .quiet (oMv (.tmp 5)), []⟩,
                  ⟨1, some 16, none, .op .quiet (oMv (.tmp 0)), []⟩,
                  ⟨2, some 17, none, .op .quiet (oArith .lss (.tmp 15) (.tmp 16)), []⟩])
                (.cond (.tmp 17)
                 (.skip)
                 (.exit 2)))
               (.seq
                (.block 3
                 (.ops [⟨0, some 20, none, .op .quiet (oFieldAddr 1 (.tmp 3)), []⟩,
                   ⟨1, some 21, none, .op .reads (oLoad (.tmp 20)), []⟩,
                   ⟨2, some 22, none, .op .quiet (oMv (.tmp 4)), []⟩,
                   ⟨3, some 23, none, .op .quiet (oMv (.tmp 5)), []⟩,
                   ⟨4, some 24, none, .op .quiet (oBuild [(.int .i64 0), (.int .i64 0)] [(0, 1), (1, 1)] [(.tmp 22), (.tmp 23)]), []⟩,
                   ⟨5, some 25, none, .op .quiet (oBuildSlice 2 1 [(.int .i64 0), (.int .i64 0)] [(0, 2)] [(.tmp 24)]), []⟩,
                   ⟨6, some 26, none, .op .hard (oAppend 2 16 (.tmp 21) (.tmp 25)), []⟩,
                   ⟨7, some 27, none, .op .quiet (oFieldAddr 1 (.tmp 3)), []⟩,
                   ⟨8, none, none, .op .hard (oStore 1 (.tmp 27) (.tmp 26)), []⟩]))
                (.ops [⟨0, some 18, none, .op .quiet (oMv (.tmp 5)), []⟩,
                  ⟨1, some 19, none, .op .quiet (oArith .add (.tmp 18) (.val (.int .i64 1))), []⟩,
                  ⟨2, some 5, none, .op .quiet (oMv (.tmp 19)), []⟩])))))))
          (.ops [⟨0, some 11, none, .op .quiet (oMv (.tmp 4)), []⟩,
            ⟨1, some 12, none, .op .quiet (oArith .add (.tmp 11) (.val (.int .i64 1))), []⟩,
            ⟨2, some 4, none, .op .quiet (oMv (.tmp 12)), []⟩]))))))
     (.seq
      (.ops [⟨0, some 28, none, .op .reads (oLoadN 2 (.tmp 3)), []⟩,
        ⟨1, none, none, .op .hard (oStore 2 (.tmp 2) (.tmp 28)), []⟩])
      (.ret)))))⟩
/-- tangram/tri.Fill -/
noncomputable def a145 : AF := ⟨[.cellN 4 2, .tmp 5, .tmp 6],
 (.seq
   (.ops [⟨0, some 2, none, .op .quiet (oBox (.tmp 0)), []⟩,
     ⟨1, some 4, none, .op .quiet (oAlloc [(.int .i64 0), (.slice none 0 0)]), []⟩,
     ⟨2, some 5, none, .op .quiet (oMv (.val (.slice none 0 0))), []⟩,
     ⟨3, some 6, none, .op .quiet (oMv (.val (.int .i64 0))), []⟩])
   (.seq
    (.ops [⟨0, some 20, none, .op .reads (oLoadN 2 (.tmp 2)), []⟩,
      ⟨1, some 21, none, .callF 126 [(.tmp 20)], []⟩,
      ⟨2, some 19, none, .op .quiet (oMv (.tmp 21)), []⟩,
      ⟨3, some 22, none, .op .quiet (oExtract 0 (.tmp 19)), []⟩,
      ⟨4, some 23, none, .op .quiet (oExtract 1 (.tmp 19)), []⟩,
      ⟨5, some 24, none, .op .quiet (oExtract 2 (.tmp 19)), []⟩,
      ⟨6, some 7, none, .op .quiet (oMv (.tmp 22)), []⟩,
      ⟨7, some 8, none, .op .quiet (oMv (.tmp 23)), []⟩,
      ⟨8, some 9, none, .op .quiet (oMv (.tmp 24)), []⟩])
    (.seq
     (.seq
      (.ops [⟨0, some 25, none, .op .quiet (oMv (.tmp 9)), []⟩,
        ⟨1, some 26, none, .op .quiet (oArith .neq (.tmp 25) (.val (.int .i64 0))), []⟩])
      (.cond (.tmp 26)
       (.seq
        (.ops [⟨0, some 27, none, .op .quiet (oBuild [(.int .i64 0), (.slice none 0 0)] [] []), []⟩,
          ⟨1, some 28, none, .op .quiet (oMv (.tmp 9)), []⟩,
          ⟨2, none, none, .op .hard (oStore 2 (.tmp 4) (.tmp 27)), []⟩,
          ⟨3, some 5, none, .op .quiet (oMv (.val (.slice none 0 0))), []⟩,
          ⟨4, some 6, none, .op .quiet (oMv (.tmp 28)), []⟩])
        (.ret))
       (.skip)))
     (.seq
      (.seq
       (.ops [⟨0, some 29, none, .op .quiet (oFieldAddr 0 (.tmp 2)), []⟩,
         ⟨1, some 30, none, .op .reads (oLoad (.tmp 29)), []⟩,
         ⟨2, some 31, none, .op .quiet (oArith .lss (.tmp 30) (.val (.int .i64 3))), []⟩])
       (.cond (.tmp 31)
        (.seq
         (.ops [⟨0, some 32, none, .op .quiet (oBuild [(.int .i64 0), (.slice none 0 0)] [] []), []⟩,
           ⟨1, none, none, .op .hard (oStore 2 (.tmp 4) (.tmp 32)), []⟩,
           ⟨2, some 5, none, .op .quiet (oMv (.val (.slice none 0 0))), []⟩,
           ⟨3, some 6, none, .op .quiet (oMv (.val (.int .i64 230))), []⟩])
         (.ret))
        (.skip)))
      (.seq
       (.seq
        (.ops [⟨0, some 34, none, .op .reads (oLoadN 2 (.tmp 2)), []⟩,
          ⟨1, some 35, none, .op .quiet (oMv (.tmp 1)), []⟩,
          ⟨2, some 36, none, .callF 53 [(.tmp 34), (.tmp 35)], []⟩,
          ⟨3, some 33, none, .op .quiet (oMv (.tmp 36)), []⟩,
          ⟨4, some 37, none, .op .quiet (oExtract 0 (.tmp 33)), []⟩,
          ⟨5, some 38, none, .op .quiet (oExtract 1 (.tmp 33)), []⟩,
          ⟨6, some 10, none, .op .quiet (oMv (.tmp 37)), []⟩,
          ⟨7, some 11, none, .op .quiet (oMv (.tmp 38)), []⟩])
        (.seq
         (.ops [⟨0, some 39, none, .op .quiet (oMv (.tmp 11)), []⟩,
           ⟨1, some 40, none, .op .quiet (oArith .neq (.tmp 39) (.val (.int .i64 0))), []⟩])
         (.cond (.tmp 40)
          (.seq
           (.ops [⟨0, some 41, none, .op .quiet (oBuild [(.int .i64 0), (.slice none 0 0)] [] []), []⟩,
             ⟨1, some 42, none, .op .quiet (oMv (.tmp 11)), []⟩,
             ⟨2, none, none, .op .hard (oStore 2 (.tmp 4) (.tmp 41)), []⟩,
             ⟨3, some 5, none, .op .quiet (oMv (.val (.slice none 0 0))), []⟩,
             ⟨4, some 6, none, .op .quiet (oMv (.tmp 42)), []⟩])
           (.ret))
          (.skip))))
       (.seq
        (.seq
         (.ops [⟨0, some 43, none, .op .reads (oLoadN 2 (.tmp 2)), []⟩,
           ⟨1, some 44, none, .op .quiet (oMv (.tmp 1)), []⟩,
           ⟨2, some 45, none, .callF 55 [(.tmp 43), (.tmp 44)], []⟩,
           ⟨3, some 46, none, .op .quiet (oNot (.tmp 45)), []⟩])
         (.cond (.tmp 46)
          (.seq
           (.ops [⟨0, some 47, none, .op .quiet (oBuild [(.int .i64 0), (.slice none 0 0)] [] []), []⟩,
             ⟨1, none, none, .op .hard (oStore 2 (.tmp 4) (.tmp 47)), []⟩,
             ⟨2, some 5, none, .op .quiet (oMv (.val (.slice none 0 0))), []⟩,
             ⟨3, some 6, none, .op .quiet (oMv (.val (.int .i64 120))), []⟩])
           (.ret))
          (.skip)))
        (.seq
         (.ops [⟨0, some 48, none, .op .reads (oLoadN 2 (.tmp 2)), []⟩,
           ⟨1, some 49, none, .op .quiet (oMv (.tmp 1)), []⟩,
           ⟨2, some 50, none, .callF 272 [(.tmp 48), (.tmp 49)], []⟩,
           ⟨3, some 12, none, .op .quiet (oMv (.tmp 50)), []⟩])
         (.seq
          (.ops [⟨0, some 51, none, .op .quiet (oMv (.tmp 8)), []⟩,
            ⟨1, some 52, none, .op .quiet (oMkSlice 1 1 [(.bool false)] (.tmp 51) (.tmp 51)), []⟩,
            ⟨2, some 13, none, .op .quiet (oMv (.tmp 52)), []⟩])
          (.seq
           (.ops [⟨0, some 53, none, .op .quiet (oMv (.tmp 13)), []⟩,
             ⟨1, some 54, none, .op .quiet (oMv (.tmp 7)), []⟩,
             ⟨2, some 55, none, .op .quiet (oIdxS 1 (.tmp 54) (.val (.int .i64 0))), []⟩,
             ⟨3, some 56, none, .op .reads (oLoad (.tmp 55)), []⟩,
             ⟨4, some 57, none, .op .quiet (oIdxS 1 (.tmp 53) (.tmp 56)), []⟩,
             ⟨5, none, none, .op .hard (oStore 1 (.tmp 57) (.val (.bool true))), []⟩])
           (.seq
            (.seq
             (.ops [⟨0, some 58, none, .op .quiet (oFieldAddr 0 (.tmp 2)), []⟩,
               ⟨1, some 59, none, .op .reads (oLoad (.tmp 58)), []⟩,
               ⟨2, some 60, none, .op .quiet (oMv (.val (.int .i64 0))), []⟩])
             (.block 0
              (.loop
               (.seq
                (.ops [⟨0, some 61, none, .op .quiet (oArith .lss (.tmp 60) (.tmp 59)), []⟩])
                (.seq
                 (.cond (.tmp 61)
                  (.skip)
                  (.exit 0))
                 (.seq
                  (.block 1
                   (.seq
                    (.ops [⟨0, some 62, none, .op .quiet (oMv (.tmp 60)), []⟩,
                      ⟨1, some 14, none, .op .quiet (oMv (.tmp 62)), []⟩])
                    (.seq
                     (.ops [⟨0, some 63, none, .op .quiet (oMv (.tmp 7)), []⟩,
                       ⟨1, some 64, none, .op .quiet (oMv (.tmp 14)), []⟩,
                       ⟨2, some 65, none, .op .quiet (oIdxS 1 (.tmp 63) (.tmp 64)), []⟩,
                       ⟨3, some 66, none, .op .reads (oLoad (.tmp 65)), []⟩,
                       ⟨4, some 15, none, .op .quiet (oMv (.tmp 66)), []⟩])
                     (.seq
                      (.ops [⟨0, some 67, none, .op .quiet (oMv (.tmp 13)), []⟩,
                        ⟨1, some 68, none, .op .quiet (oMv (.tmp 15)), []⟩,
                        ⟨2, some 69, none, .op .quiet (oIdxS 1 (.tmp 67) (.tmp 68)), []⟩,
                        ⟨3, some 70, none, .op .reads (oLoad (.tmp 69)), []⟩,
                        ⟨4, some 71, none, .op .quiet (oNot (.tmp 70)), []⟩])
                      (.cond (.tmp 71)
                       (.seq
                        (.ops [⟨0, some 72, none, .op .quiet (oMv (.tmp 13)), []⟩,
                          ⟨1, some 73, none, .op .quiet (oMv (.tmp 15)), []⟩,
                          ⟨2, some 74, none, .op .quiet (oIdxS 1 (.tmp 72) (.tmp 73)), []⟩,
                          ⟨3, none, none, .op .hard (oStore 1 (.tmp 74) (.val (.bool true))), []⟩])
                        (.drawn [⟨0, some 75, none, .op .quiet (oMv (.tmp 12)), []⟩,
                          ⟨1, some 76, none, .op .quiet (oMv (.tmp 14)), []⟩,
                          ⟨2, some 77, none, .op .quiet (oMv (.tmp 12)), []⟩,
                          ⟨3, some 78, none, .op .quiet (oNilCheck (.tmp 77)), []⟩,
                          ⟨4, some 79, none, .op .quiet (oFieldAddr 3 (.tmp 78)), []⟩,
                          ⟨5, some 80, none, .op .reads (oLoad (.tmp 79)), []⟩,
                          ⟨6, some 81, none, .op .quiet (oIdxS 1 (.tmp 80) (.val (.int .i64 0))), []⟩,
                          ⟨7, some 82, none, .op .reads (oLoad (.tmp 81)), []⟩,
                          ⟨8, some 83, none, .op .quiet (oMv (.tmp 12)), []⟩,
                          ⟨9, some 84, none, .op .quiet (oNilCheck (.tmp 83)), []⟩,
                          ⟨10, some 85, none, .op .quiet (oFieldAddr 3 (.tmp 84)), []⟩,
                          ⟨11, some 86, none, .op .reads (oLoad (.tmp 85)), []⟩,
                          ⟨12, some 87, none, .op .quiet (oMv (.tmp 14)), []⟩,
                          ⟨13, some 88, none, .op .quiet (oIdxS 1 (.tmp 86) (.tmp 87)), []⟩,
                          ⟨14, some 89, none, .op .reads (oLoad (.tmp 88)), []⟩,
                          ⟨15, some 90, none, .callF 273 [(.tmp 75), (.val (.int .i64 0)), (.tmp 76), (.tmp 82), (.tmp 89)], []⟩]))
                       (.skip))))))
                  (.ops [⟨0, some 91, none, .op .quiet (oArith .add (.tmp 60) (.val (.int .i64 1))), []⟩,
                    ⟨1, some 60, none, .op .quiet (oMv (.tmp 91)), []⟩])))))))
            (.seq
             (.seq
              (.ops [⟨0, some 16, none, .op .quiet (oMv (.val (.int .i64 0))), []⟩])
              (.block 2
               (.loop
                (.seq
                 (.seq
                  (.ops [⟨0, some 92, none, .op .quiet (oMv (.tmp 16)), []⟩,
                    ⟨1, some 93, none, .op .quiet (oMv (.tmp 12)), []⟩,
                    ⟨2, some 94, none, .op .quiet (oNilCheck (.tmp 93)), []⟩,
                    ⟨3, some 95, none, .op .quiet (oFieldAddr 1 (.tmp 94)), []⟩,
                    ⟨4, some 96, none, .op .reads (oLoad (.tmp 95)), []⟩,
                    ⟨5, some 97, none, .op .reads (oLen .slice (.tmp 96)), []⟩,
                    ⟨6, some 98, none, .op .quiet (oArith .lss (.tmp 92) (.tmp 97)), []⟩])
                  (.cond (.tmp 98)
                   (.skip)
                   (.exit 2)))
                 (.seq
                  (.block 3
                   (.ops [⟨0, some 101, none, .op .quiet (oMv (.tmp 12)), []⟩,
                     ⟨1, some 102, none, .op .quiet (oMv (.tmp 16)), []⟩,
                     ⟨2, some 103, none, .callF 274 [(.tmp 101), (.tmp 102)], []⟩]))
                  (.ops [⟨0, some 99, none, .op .quiet (oMv (.tmp 16)), []⟩,
                    ⟨1, some 100, none, .op .quiet (oArith .add (.tmp 99) (.val (.int .i64 1))), []⟩,
                    ⟨2, some 16, none, .op .quiet (oMv (.tmp 100)), []⟩]))))))
             (.seq
              (.ops [⟨0, some 105, none, .op .quiet (oMv (.tmp 12)), []⟩,
                ⟨1, some 106, none, .callF 275 [(.tmp 105)], []⟩,
                ⟨2, some 104, none, .op .quiet (oMv (.tmp 106)), []⟩,
                ⟨3, some 107, none, .op .quiet (oExtract 0 (.tmp 104)), []⟩,
                ⟨4, some 108, none, .op .quiet (oExtract 1 (.tmp 104)), []⟩,
                ⟨5, some 17, none, .op .quiet (oAlloc [(.int .i64 0), (.slice none 0 0)]), []⟩,
                ⟨6, none, none, .op .hard (oStore 2 (.tmp 17) (.tmp 107)), []⟩,
                ⟨7, some 18, none, .op .quiet (oMv (.tmp 108)), []⟩])
              (.seq
               (.ops [⟨0, some 109, none, .op .reads (oLoadN 2 (.tmp 17)), []⟩,
                 ⟨1, some 110, none, .op .quiet (oMv (.tmp 18)), []⟩,
                 ⟨2, none, none, .op .hard (oStore 2 (.tmp 4) (.tmp 109)), []⟩,
                 ⟨3, some 5, none, .op .quiet (oMv (.tmp 110)), []⟩,
                 ⟨4, some 6, none, .op .quiet (oMv (.val (.int .i64 0))), []⟩])
               (.ret))))))))))))))⟩
/-- tangram/order.Of -/
noncomputable def a146 : AF := ⟨[.tmp 6, .tmp 7],
 (.seq
   (.ops [⟨0, some 3, none, .op .quiet (oBox (.tmp 0)), []⟩,
     ⟨1, some 6, none, .op .quiet (oMv (.val (.slice none 0 0))), []⟩,
     ⟨2, some 7, none, .op .quiet (oMv (.val (.int .i64 0))), []⟩])
   (.seq
    (.ops [⟨0, some 16, none, .op .reads (oLoadN 2 (.tmp 3)), []⟩,
      ⟨1, some 17, none, .op .quiet (oMv (.tmp 1)), []⟩,
      ⟨2, some 18, none, .op .quiet (oMv (.tmp 2)), []⟩,
      ⟨3, some 19, none, .callF 276 [(.tmp 16), (.tmp 17), (.tmp 18)], []⟩,
      ⟨4, some 15, none, .op .quiet (oMv (.tmp 19)), []⟩,
      ⟨5, some 20, none, .op .quiet (oExtract 0 (.tmp 15)), []⟩,
      ⟨6, some 21, none, .op .quiet (oExtract 1 (.tmp 15)), []⟩,
      ⟨7, some 8, none, .op .quiet (oMv (.tmp 20)), []⟩,
      ⟨8, some 9, none, .op .quiet (oMv (.tmp 21)), []⟩])
    (.seq
     (.seq
      (.ops [⟨0, some 22, none, .op .quiet (oMv (.tmp 9)), []⟩,
        ⟨1, some 23, none, .op .quiet (oArith .neq (.tmp 22) (.val (.int .i64 0))), []⟩])
      (.cond (.tmp 23)
       (.seq
        (.ops [⟨0, some 24, none, .op .quiet (oMv (.tmp 9)), []⟩,
          ⟨1, some 6, none, .op .quiet (oMv (.val (.slice none 0 0))), []⟩,
          ⟨2, some 7, none, .op .quiet (oMv (.tmp 24)), []⟩])
        (.ret))
       (.skip)))
     (.seq
      (.drawn [⟨0, some 25, none, .op .quiet (oMv (.tmp 8)), []⟩,
        ⟨1, some 26, none, .op .quiet (oFieldAddr 0 (.tmp 3)), []⟩,
        ⟨2, some 27, none, .op .reads (oLoad (.tmp 26)), []⟩,
        ⟨3, some 28, none, .op .quiet (oMkSlice 1 8 [(.int .i64 0)] (.tmp 27) (.tmp 27)), []⟩,
        ⟨4, some 29, none, .op .quiet (oFieldAddr 0 (.tmp 3)), []⟩,
        ⟨5, some 30, none, .op .reads (oLoad (.tmp 29)), []⟩,
        ⟨6, some 31, none, .op .quiet (oMkSlice 1 8 [(.int .i64 0)] (.tmp 30) (.tmp 30)), []⟩,
        ⟨7, some 32, none, .op .quiet (oFieldAddr 0 (.tmp 3)), []⟩,
        ⟨8, some 33, none, .op .reads (oLoad (.tmp 32)), []⟩,
        ⟨9, some 34, none, .op .quiet (oMkSlice 1 8 [(.int .i64 0)] (.tmp 33) (.tmp 33)), []⟩,
        ⟨10, some 35, none, .op .quiet (oFieldAddr 0 (.tmp 3)), []⟩,
        ⟨11, some 36, none, .op .reads (oLoad (.tmp 35)), []⟩,
        ⟨12, some 37, none, .op .quiet (oMkSlice 1 8 [(.int .i64 0)] (.tmp 36) (.tmp 36)), []⟩,
        ⟨13, some 38, none, .op .quiet (oBuild [(.pointer none), (.slice none 0 0), (.slice none 0 0), (.slice none 0 0), (.slice none 0 0)] [(0, 1), (1, 1), (2, 1), (3, 1), (4, 1)] [(.tmp 25), (.tmp 28), (.tmp 31), (.tmp 34), (.tmp 37)]), []⟩,
        ⟨14, some 39, none, .op .quiet (oBox (.tmp 38)), []⟩,
        ⟨15, some 10, none, .op .quiet (oMv (.tmp 39)), []⟩])
      (.seq
       (.ops [⟨0, some 40, none, .op .quiet (oMv (.tmp 10)), []⟩,
         ⟨1, some 41, none, .op .quiet (oMv (.tmp 8)), []⟩,
         ⟨2, some 42, none, .op .quiet (oNilCheck (.tmp 41)), []⟩,
         ⟨3, some 43, none, .op .quiet (oFieldAddr 3 (.tmp 42)), []⟩,
         ⟨4, some 44, none, .op .reads (oLoad (.tmp 43)), []⟩,
         ⟨5, some 45, none, .callF 277 [(.tmp 40), (.tmp 44), (.val (.int .i64 (-1))), (.val (.int .i64 (-1)))], []⟩])
       (.seq
        (.drawn [⟨0, some 46, none, .op .quiet (oMv (.tmp 10)), []⟩,
          ⟨1, some 47, none, .op .quiet (oMv (.tmp 8)), []⟩,
          ⟨2, some 48, none, .op .quiet (oNilCheck (.tmp 47)), []⟩,
          ⟨3, some 49, none, .op .quiet (oFieldAddr 4 (.tmp 48)), []⟩,
          ⟨4, some 50, none, .op .reads (oLoad (.tmp 49)), []⟩,
          ⟨5, some 51, none, .op .quiet (oMv (.tmp 8)), []⟩,
          ⟨6, some 52, none, .op .quiet (oNilCheck (.tmp 51)), []⟩,
          ⟨7, some 53, none, .op .quiet (oFieldAddr 3 (.tmp 52)), []⟩,
          ⟨8, some 54, none, .op .reads (oLoad (.tmp 53)), []⟩,
          ⟨9, some 55, none, .callF 277 [(.tmp 46), (.tmp 50), (.tmp 54), (.val (.int .i64 (-1)))], []⟩])
        (.seq
         (.drawn [⟨0, some 56, none, .op .quiet (oMv (.tmp 10)), []⟩,
           ⟨1, some 57, none, .op .quiet (oMv (.tmp 8)), []⟩,
           ⟨2, some 58, none, .op .quiet (oNilCheck (.tmp 57)), []⟩,
           ⟨3, some 59, none, .op .quiet (oFieldAddr 5 (.tmp 58)), []⟩,
           ⟨4, some 60, none, .op .reads (oLoad (.tmp 59)), []⟩,
           ⟨5, some 61, none, .op .quiet (oMv (.tmp 8)), []⟩,
           ⟨6, some 62, none, .op .quiet (oNilCheck (.tmp 61)), []⟩,
           ⟨7, some 63, none, .op .quiet (oFieldAddr 3 (.tmp 62)), []⟩,
           ⟨8, some 64, none, .op .reads (oLoad (.tmp 63)), []⟩,
           ⟨9, some 65, none, .op .quiet (oMv (.tmp 8)), []⟩,
           ⟨10, some 66, none, .op .quiet (oNilCheck (.tmp 65)), []⟩,
           ⟨11, some 67, none, .op .quiet (oFieldAddr 4 (.tmp 66)), []⟩,
           ⟨12, some 68, none, .op .reads (oLoad (.tmp 67)), []⟩,
           ⟨13, some 69, none, .callF 277 [(.tmp 56), (.tmp 60), (.tmp 64), (.tmp 68)], []⟩])
         (.seq
          (.ops [⟨0, some 70, none, .op .quiet (oFieldAddr 0 (.tmp 3)), []⟩,
            ⟨1, some 71, none, .op .reads (oLoad (.tmp 70)), []⟩,
            ⟨2, some 72, none, .op .quiet (oMkSlice 1 8 [(.int .i64 0)] (.tmp 71) (.tmp 71)), []⟩,
            ⟨3, some 11, none, .op .quiet (oMv (.tmp 72)), []⟩])
          (.seq
           (.drawn [⟨0, some 73, none, .op .quiet (oMv (.tmp 11)), []⟩,
             ⟨1, some 74, none, .op .quiet (oMv (.tmp 11)), []⟩,
             ⟨2, some 75, none, .op .quiet (oMv (.tmp 8)), []⟩,
             ⟨3, some 76, none, .op .quiet (oNilCheck (.tmp 75)), []⟩,
             ⟨4, some 77, none, .op .quiet (oFieldAddr 3 (.tmp 76)), []⟩,
             ⟨5, some 78, none, .op .reads (oLoad (.tmp 77)), []⟩,
             ⟨6, some 79, none, .op .quiet (oMv (.tmp 8)), []⟩,
             ⟨7, some 80, none, .op .quiet (oNilCheck (.tmp 79)), []⟩,
             ⟨8, some 81, none, .op .quiet (oFieldAddr 4 (.tmp 80)), []⟩,
             ⟨9, some 82, none, .op .reads (oLoad (.tmp 81)), []⟩,
             ⟨10, some 83, none, .op .quiet (oIdxS 1 (.tmp 73) (.val (.int .i64 0))), []⟩,
             ⟨11, none, none, .op .hard (oStore 1 (.tmp 83) (.tmp 78)), []⟩,
             ⟨12, some 84, none, .op .quiet (oIdxS 1 (.tmp 74) (.val (.int .i64 1))), []⟩,
             ⟨13, none, none, .op .hard (oStore 1 (.tmp 84) (.tmp 82)), []⟩])
           (.seq
            (.drawn [⟨0, some 85, none, .op .quiet (oFieldAddr 0 (.tmp 3)), []⟩,
              ⟨1, some 86, none, .op .reads (oLoad (.tmp 85)), []⟩,
              ⟨2, some 87, none, .op .quiet (oArith .sub (.tmp 86) (.val (.int .i64 1))), []⟩,
              ⟨3, some 88, none, .op .quiet (oMv (.tmp 8)), []⟩,
              ⟨4, some 89, none, .op .quiet (oNilCheck (.tmp 88)), []⟩,
              ⟨5, some 90, none, .op .quiet (oFieldAddr 5 (.tmp 89)), []⟩,
              ⟨6, some 91, none, .op .reads (oLoad (.tmp 90)), []⟩,
              ⟨7, some 92, none, .op .quiet (oBuildSlice 1 1 [(.int .i64 0)] [(0, 1)] [(.tmp 91)]), []⟩,
              ⟨8, some 12, none, .op .quiet (oMv (.tmp 87)), []⟩,
              ⟨9, some 13, none, .op .quiet (oMv (.tmp 92)), []⟩])
            (.seq
             (.block 0
              (.loop
               (.seq
                (.seq
                 (.ops [⟨0, some 93, none, .op .quiet (oMv (.tmp 13)), []⟩,
                   ⟨1, some 94, none, .op .reads (oLen .slice (.tmp 93)), []⟩,
                   ⟨2, some 95, none, .op .quiet (oArith .gtr (.tmp 94) (.val (.int .i64 0))), []⟩,
                   ⟨3, some 96, none, .op .quiet (oMv (.tmp 95)), []⟩,
                   ⟨4, some 97, some (96, true), .op .quiet (oMv (.tmp 12)), []⟩,
                   ⟨5, some 98, some (96, true), .op .quiet (oArith .gtr (.tmp 97) (.val (.int .i64 1))), []⟩,
                   ⟨6, some 99, none, .op .quiet (oPick (.tmp 96) (.tmp 98) (.val (.bool false))), []⟩])
                 (.cond (.tmp 99)
                  (.skip)
                  (.exit 0)))
                (.block 1
                 (.seq
                  (.ops [⟨0, some 100, none, .op .quiet (oMv (.tmp 13)), []⟩,
                    ⟨1, some 101, none, .op .quiet (oMv (.tmp 13)), []⟩,
                    ⟨2, some 102, none, .op .reads (oLen .slice (.tmp 101)), []⟩,
                    ⟨3, some 103, none, .op .quiet (oArith .sub (.tmp 102) (.val (.int .i64 1))), []⟩,
                    ⟨4, some 104, none, .op .quiet (oIdxS 1 (.tmp 100) (.tmp 103)), []⟩,
                    ⟨5, some 105, none, .op .reads (oLoad (.tmp 104)), []⟩,
                    ⟨6, some 14, none, .op .quiet (oMv (.tmp 105)), []⟩])
                  (.seq
                   (.ops [⟨0, some 106, none, .op .quiet (oMv (.tmp 13)), []⟩,
                     ⟨1, some 107, none, .op .quiet (oMv (.tmp 13)), []⟩,
                     ⟨2, some 108, none, .op .reads (oLen .slice (.tmp 107)), []⟩,
                     ⟨3, some 109, none, .op .quiet (oArith .sub (.tmp 108) (.val (.int .i64 1))), []⟩,
                     ⟨4, some 110, none, .op .quiet (oSlice 1 (.tmp 106) none (some (.tmp 109)) none), []⟩,
                     ⟨5, some 13, none, .op .quiet (oMv (.tmp 110)), []⟩])
                   (.seq
                    (.seq
                     (.ops [⟨0, some 111, none, .op .quiet (oMv (.tmp 10)), []⟩,
                       ⟨1, some 112, none, .op .quiet (oMv (.tmp 14)), []⟩,
                       ⟨2, some 113, none, .callF 278 [(.tmp 111), (.tmp 112)], []⟩,
                       ⟨3, some 114, none, .op .quiet (oNot (.tmp 113)), []⟩])
                     (.cond (.tmp 114)
                      (.exit 1)
                      (.skip)))
                    (.seq
                     (.ops [⟨0, some 115, none, .op .quiet (oMv (.tmp 11)), []⟩,
                       ⟨1, some 116, none, .op .quiet (oMv (.tmp 12)), []⟩,
                       ⟨2, some 117, none, .op .quiet (oMv (.tmp 14)), []⟩,
                       ⟨3, some 118, none, .op .quiet (oIdxS 1 (.tmp 115) (.tmp 116)), []⟩,
                       ⟨4, none, none, .op .hard (oStore 1 (.tmp 118) (.tmp 117)), []⟩])
                     (.seq
                      (.ops [⟨0, some 119, none, .op .quiet (oMv (.tmp 12)), []⟩,
                        ⟨1, some 120, none, .op .quiet (oArith .sub (.tmp 119) (.val (.int .i64 1))), []⟩,
                        ⟨2, some 12, none, .op .quiet (oMv (.tmp 120)), []⟩])
                      (.ops [⟨0, some 121, none, .op .quiet (oMv (.tmp 13)), []⟩,
                        ⟨1, some 122, none, .op .quiet (oMv (.tmp 10)), []⟩,
                        ⟨2, some 123, none, .op .quiet (oMv (.tmp 14)), []⟩,
                        ⟨3, some 124, none, .callF 279 [(.tmp 122), (.tmp 123)], []⟩,
                        ⟨4, some 125, none, .op .hard (oAppend 1 8 (.tmp 121) (.tmp 124)), []⟩,
                        ⟨5, some 13, none, .op .quiet (oMv (.tmp 125)), []⟩]))))))))))
             (.seq
              (.ops [⟨0, some 126, none, .op .quiet (oMv (.tmp 11)), []⟩,
                ⟨1, some 6, none, .op .quiet (oMv (.tmp 126)), []⟩,
                ⟨2, some 7, none, .op .quiet (oMv (.val (.int .i64 0))), []⟩])
              (.ret)))))))))))))⟩
/-- tangram/order.Covers -/
noncomputable def a147 : AF := ⟨[.tmp 8, .tmp 9],
 (.seq
   (.ops [⟨0, some 4, none, .op .quiet (oBox (.tmp 0)), []⟩,
     ⟨1, some 8, none, .op .quiet (oMv (.val (.slice none 0 0))), []⟩,
     ⟨2, some 9, none, .op .quiet (oMv (.val (.int .i64 0))), []⟩])
   (.seq
    (.ops [⟨0, some 15, none, .op .reads (oLoadN 2 (.tmp 4)), []⟩,
      ⟨1, some 16, none, .op .quiet (oMv (.tmp 1)), []⟩,
      ⟨2, some 17, none, .op .quiet (oMv (.tmp 2)), []⟩,
      ⟨3, some 18, none, .callF 276 [(.tmp 15), (.tmp 16), (.tmp 17)], []⟩,
      ⟨4, some 14, none, .op .quiet (oMv (.tmp 18)), []⟩,
      ⟨5, some 19, none, .op .quiet (oExtract 0 (.tmp 14)), []⟩,
      ⟨6, some 20, none, .op .quiet (oExtract 1 (.tmp 14)), []⟩,
      ⟨7, some 10, none, .op .quiet (oMv (.tmp 19)), []⟩,
      ⟨8, some 11, none, .op .quiet (oMv (.tmp 20)), []⟩])
    (.seq
     (.seq
      (.ops [⟨0, some 21, none, .op .quiet (oMv (.tmp 11)), []⟩,
        ⟨1, some 22, none, .op .quiet (oArith .neq (.tmp 21) (.val (.int .i64 0))), []⟩])
      (.cond (.tmp 22)
       (.seq
        (.ops [⟨0, some 23, none, .op .quiet (oMv (.tmp 11)), []⟩,
          ⟨1, some 8, none, .op .quiet (oMv (.val (.slice none 0 0))), []⟩,
          ⟨2, some 9, none, .op .quiet (oMv (.tmp 23)), []⟩])
        (.ret))
       (.skip)))
     (.seq
      (.ops [⟨0, some 25, none, .op .quiet (oMv (.tmp 10)), []⟩,
        ⟨1, some 26, none, .op .quiet (oMv (.tmp 3)), []⟩,
        ⟨2, some 27, none, .callF 280 [(.tmp 25), (.tmp 26)], []⟩,
        ⟨3, some 24, none, .op .quiet (oMv (.tmp 27)), []⟩,
        ⟨4, some 28, none, .op .quiet (oExtract 0 (.tmp 24)), []⟩,
        ⟨5, some 29, none, .op .quiet (oExtract 1 (.tmp 24)), []⟩,
        ⟨6, some 12, none, .op .quiet (oMv (.tmp 28)), []⟩,
        ⟨7, some 13, none, .op .quiet (oMv (.tmp 29)), []⟩])
      (.seq
       (.seq
        (.ops [⟨0, some 30, none, .op .quiet (oMv (.tmp 13)), []⟩,
          ⟨1, some 31, none, .op .quiet (oNot (.tmp 30)), []⟩])
        (.cond (.tmp 31)
         (.seq
          (.ops [⟨0, some 8, none, .op .quiet (oMv (.val (.slice none 0 0))), []⟩,
            ⟨1, some 9, none, .op .quiet (oMv (.val (.int .i64 2))), []⟩])
          (.ret))
         (.skip)))
       (.seq
        (.ops [⟨0, some 32, none, .op .quiet (oMv (.tmp 12)), []⟩,
          ⟨1, some 8, none, .op .quiet (oMv (.tmp 32)), []⟩,
          ⟨2, some 9, none, .op .quiet (oMv (.val (.int .i64 0))), []⟩])
        (.ret)))))))⟩
/-- tangram/grid.laid -/
noncomputable def a148 : AF := ⟨[.tmp 4],
 (.seq
   (.ops [⟨0, some 4, none, .op .quiet (oMv (.val (.slice none 0 0))), []⟩])
   (.seq
    (.ops [⟨0, some 26, none, .op .quiet (oMv (.tmp 0)), []⟩,
      ⟨1, some 27, none, .op .reads (oLen .slice (.tmp 26)), []⟩,
      ⟨2, some 5, none, .op .quiet (oMv (.tmp 27)), []⟩])
    (.seq
     (.ops [⟨0, some 28, none, .op .quiet (oMv (.tmp 5)), []⟩,
       ⟨1, some 29, none, .op .quiet (oMkSlice 1 8 [(.int .i64 0)] (.tmp 28) (.tmp 28)), []⟩,
       ⟨2, some 6, none, .op .quiet (oAlloc [(.slice none 0 0)]), []⟩,
       ⟨3, none, none, .op .hard (oStore 1 (.tmp 6) (.tmp 29)), []⟩])
     (.seq
      (.ops [⟨0, some 30, none, .op .quiet (oMv (.tmp 5)), []⟩,
        ⟨1, some 31, none, .op .quiet (oMkSlice 1 8 [(.int .i64 0)] (.tmp 30) (.tmp 30)), []⟩,
        ⟨2, some 7, none, .op .quiet (oMv (.tmp 31)), []⟩])
      (.seq
       (.ops [⟨0, some 32, none, .op .quiet (oMv (.tmp 5)), []⟩,
         ⟨1, some 33, none, .op .quiet (oMkSlice 1 8 [(.int .i64 0)] (.tmp 32) (.tmp 32)), []⟩,
         ⟨2, some 8, none, .op .quiet (oMv (.tmp 33)), []⟩])
       (.seq
        (.ops [⟨0, some 34, none, .op .quiet (oMv (.tmp 5)), []⟩,
          ⟨1, some 35, none, .op .quiet (oMkSlice 1 8 [(.int .i64 0)] (.tmp 34) (.tmp 34)), []⟩,
          ⟨2, some 9, none, .op .quiet (oMv (.tmp 35)), []⟩])
        (.seq
         (.seq
          (.ops [⟨0, some 36, none, .op .quiet (oMv (.tmp 5)), []⟩,
            ⟨1, some 37, none, .op .quiet (oMv (.val (.int .i64 0))), []⟩])
          (.block 0
           (.loop
            (.seq
             (.ops [⟨0, some 38, none, .op .quiet (oArith .lss (.tmp 37) (.tmp 36)), []⟩])
             (.seq
              (.cond (.tmp 38)
               (.skip)
               (.exit 0))
              (.seq
               (.block 1
                (.seq
                 (.ops [⟨0, some 39, none, .op .quiet (oMv (.tmp 37)), []⟩,
                   ⟨1, some 10, none, .op .quiet (oMv (.tmp 39)), []⟩])
                 (.ops [⟨0, some 40, none, .op .quiet (oMv (.tmp 8)), []⟩,
                   ⟨1, some 41, none, .op .quiet (oMv (.tmp 10)), []⟩,
                   ⟨2, some 42, none, .op .quiet (oMv (.tmp 9)), []⟩,
                   ⟨3, some 43, none, .op .quiet (oMv (.tmp 10)), []⟩,
                   ⟨4, some 44, none, .op .quiet (oIdxS 1 (.tmp 40) (.tmp 41)), []⟩,
                   ⟨5, none, none, .op .hard (oStore 1 (.tmp 44) (.val (.int .i64 (-1)))), []⟩,
                   ⟨6, some 45, none, .op .quiet (oIdxS 1 (.tmp 42) (.tmp 43)), []⟩,
                   ⟨7, none, none, .op .hard (oStore 1 (.tmp 45) (.val (.int .i64 (-1)))), []⟩])))
               (.ops [⟨0, some 46, none, .op .quiet (oArith .add (.tmp 37) (.val (.int .i64 1))), []⟩,
                 ⟨1, some 37, none, .op .quiet (oMv (.tmp 46)), []⟩])))))))
         (.seq
          (.ops [⟨0, some 47, none, .op .quiet (oClos 281 [] [(.tmp 6)]), []⟩,
            ⟨1, some 11, none, .op .quiet (oMv (.tmp 47)), []⟩])
          (.seq
           (.drawn [⟨0, some 48, none, .op .quiet (oMv (.tmp 9)), []⟩,
             ⟨1, some 49, none, .op .quiet (oMv (.tmp 0)), []⟩,
             ⟨2, some 50, none, .op .quiet (oIdxS 1 (.tmp 49) (.val (.int .i64 0))), []⟩,
             ⟨3, some 51, none, .op .reads (oLoad (.tmp 50)), []⟩,
             ⟨4, some 52, none, .op .quiet (oMv (.tmp 0)), []⟩,
             ⟨5, some 53, none, .op .quiet (oIdxS 1 (.tmp 52) (.val (.int .i64 1))), []⟩,
             ⟨6, some 54, none, .op .reads (oLoad (.tmp 53)), []⟩,
             ⟨7, some 55, none, .op .quiet (oIdxS 1 (.tmp 48) (.tmp 51)), []⟩,
             ⟨8, none, none, .op .hard (oStore 1 (.tmp 55) (.tmp 54)), []⟩])
           (.seq
            (.seq
             (.ops [⟨0, some 12, none, .op .quiet (oMv (.val (.int .i64 2))), []⟩])
             (.block 2
              (.loop
               (.seq
                (.seq
                 (.ops [⟨0, some 56, none, .op .quiet (oMv (.tmp 12)), []⟩,
                   ⟨1, some 57, none, .op .quiet (oMv (.tmp 5)), []⟩,
                   ⟨2, some 58, none, .op .quiet (oArith .lss (.tmp 56) (.tmp 57)), []⟩])
                 (.cond (.tmp 58)
                  (.skip)
                  (.exit 2)))
                (.seq
                 (.block 3
                  (.seq
                   (.drawn [⟨0, some 61, none, .op .quiet (oMv (.tmp 0)), []⟩,
                     ⟨1, some 62, none, .op .quiet (oMv (.tmp 12)), []⟩,
                     ⟨2, some 63, none, .op .quiet (oIdxS 1 (.tmp 61) (.tmp 62)), []⟩,
                     ⟨3, some 64, none, .op .reads (oLoad (.tmp 63)), []⟩,
                     ⟨4, some 65, none, .op .quiet (oMv (.tmp 1)), []⟩,
                     ⟨5, some 66, none, .op .quiet (oMv (.tmp 12)), []⟩,
                     ⟨6, some 67, none, .op .quiet (oIdxS 1 (.tmp 65) (.tmp 66)), []⟩,
                     ⟨7, some 68, none, .op .reads (oLoad (.tmp 67)), []⟩,
                     ⟨8, some 13, none, .op .quiet (oMv (.tmp 64)), []⟩,
                     ⟨9, some 14, none, .op .quiet (oMv (.tmp 68)), []⟩])
                   (.seq
                    (.drawn [⟨0, some 69, none, .op .quiet (oMv (.tmp 14)), []⟩,
                      ⟨1, some 70, none, .op .quiet (oIdxS 1 (.tmp 69) (.val (.int .i64 0))), []⟩,
                      ⟨2, some 71, none, .op .reads (oLoad (.tmp 70)), []⟩,
                      ⟨3, some 72, none, .op .quiet (oMv (.tmp 14)), []⟩,
                      ⟨4, some 73, none, .op .quiet (oIdxS 1 (.tmp 72) (.val (.int .i64 1))), []⟩,
                      ⟨5, some 74, none, .op .reads (oLoad (.tmp 73)), []⟩,
                      ⟨6, some 75, none, .op .quiet (oMv (.tmp 14)), []⟩,
                      ⟨7, some 76, none, .op .quiet (oMv (.tmp 14)), []⟩,
                      ⟨8, some 77, none, .op .reads (oLen .slice (.tmp 76)), []⟩,
                      ⟨9, some 78, none, .op .quiet (oArith .sub (.tmp 77) (.val (.int .i64 1))), []⟩,
                      ⟨10, some 79, none, .op .quiet (oIdxS 1 (.tmp 75) (.tmp 78)), []⟩,
                      ⟨11, some 80, none, .op .reads (oLoad (.tmp 79)), []⟩,
                      ⟨12, some 15, none, .op .quiet (oMv (.tmp 71)), []⟩,
                      ⟨13, some 16, none, .op .quiet (oMv (.tmp 74)), []⟩,
                      ⟨14, some 17, none, .op .quiet (oMv (.tmp 80)), []⟩])
                    (.seq
                     (.ops [⟨0, some 81, none, .op .quiet (oMv (.tmp 11)), []⟩,
                       ⟨1, some 82, none, .op .quiet (oMv (.tmp 16)), []⟩,
                       ⟨2, some 83, none, .call (.tmp 81) [(.tmp 82), (.val (.int .i64 1))], []⟩])
                     (.seq
                      (.ops [⟨0, some 84, none, .op .quiet (oMv (.tmp 11)), []⟩,
                        ⟨1, some 85, none, .op .quiet (oMv (.tmp 17)), []⟩,
                        ⟨2, some 86, none, .call (.tmp 84) [(.tmp 85), (.val (.int .i64 1))], []⟩])
                      (.seq
                       (.ops [⟨0, some 18, none, .op .quiet (oMv (.val (.int .i64 0))), []⟩])
                       (.seq
                        (.seq
                         (.ops [⟨0, some 87, none, .op .quiet (oMv (.tmp 14)), []⟩,
                           ⟨1, some 88, none, .op .quiet (oSlice 1 (.tmp 87) (some (.val (.int .i64 1))) none none), []⟩,
                           ⟨2, some 89, none, .op .reads (oLen .slice (.tmp 88)), []⟩,
                           ⟨3, some 90, none, .op .quiet (oMv (.val (.int .i64 0))), []⟩])
                         (.block 4
                          (.loop
                           (.seq
                            (.ops [⟨0, some 91, none, .op .quiet (oArith .lss (.tmp 90) (.tmp 89)), []⟩])
                            (.seq
                             (.cond (.tmp 91)
                              (.skip)
                              (.exit 4))
                             (.seq
                              (.block 5
                               (.seq
                                (.ops [⟨0, some 92, none, .op .quiet (oIdxS 1 (.tmp 88) (.tmp 90)), []⟩,
                                  ⟨1, some 93, none, .op .reads (oLoad (.tmp 92)), []⟩,
                                  ⟨2, some 20, none, .op .quiet (oMv (.tmp 93)), []⟩])
                                (.ops [⟨0, some 94, none, .op .quiet (oMv (.tmp 18)), []⟩,
                                  ⟨1, some 95, none, .op .reads (oLoad (.tmp 6)), []⟩,
                                  ⟨2, some 96, none, .op .quiet (oMv (.tmp 20)), []⟩,
                                  ⟨3, some 97, none, .op .quiet (oIdxS 1 (.tmp 95) (.tmp 96)), []⟩,
                                  ⟨4, some 98, none, .op .reads (oLoad (.tmp 97)), []⟩,
                                  ⟨5, some 99, none, .op .quiet (oArith .add (.tmp 94) (.tmp 98)), []⟩,
                                  ⟨6, some 18, none, .op .quiet (oMv (.tmp 99)), []⟩])))
                              (.ops [⟨0, some 100, none, .op .quiet (oArith .add (.tmp 90) (.val (.int .i64 1))), []⟩,
                                ⟨1, some 90, none, .op .quiet (oMv (.tmp 100)), []⟩])))))))
                        (.seq
                         (.drawn [⟨0, some 101, none, .op .reads (oLoad (.tmp 6)), []⟩,
                           ⟨1, some 102, none, .op .quiet (oMv (.tmp 13)), []⟩,
                           ⟨2, some 103, none, .op .quiet (oMv (.tmp 18)), []⟩,
                           ⟨3, some 104, none, .op .quiet (oMv (.tmp 7)), []⟩,
                           ⟨4, some 105, none, .op .quiet (oMv (.tmp 15)), []⟩,
                           ⟨5, some 106, none, .op .quiet (oIdxS 1 (.tmp 104) (.tmp 105)), []⟩,
                           ⟨6, some 107, none, .op .reads (oLoad (.tmp 106)), []⟩,
                           ⟨7, some 108, none, .op .quiet (oArith .sub (.tmp 103) (.tmp 107)), []⟩,
                           ⟨8, some 109, none, .op .quiet (oMv (.tmp 7)), []⟩,
                           ⟨9, some 110, none, .op .quiet (oMv (.tmp 17)), []⟩,
                           ⟨10, some 111, none, .op .quiet (oIdxS 1 (.tmp 109) (.tmp 110)), []⟩,
                           ⟨11, some 112, none, .op .reads (oLoad (.tmp 111)), []⟩,
                           ⟨12, some 113, none, .op .quiet (oArith .add (.tmp 108) (.tmp 112)), []⟩,
                           ⟨13, some 114, none, .op .quiet (oArith .quo (.tmp 113) (.val (.int .i64 2))), []⟩,
                           ⟨14, some 115, none, .op .quiet (oIdxS 1 (.tmp 101) (.tmp 102)), []⟩,
                           ⟨15, none, none, .op .hard (oStore 1 (.tmp 115) (.tmp 114)), []⟩])
                         (.seq
                          (.drawn [⟨0, some 116, none, .op .quiet (oMv (.tmp 7)), []⟩,
                            ⟨1, some 117, none, .op .quiet (oMv (.tmp 13)), []⟩,
                            ⟨2, some 118, none, .op .quiet (oMv (.tmp 18)), []⟩,
                            ⟨3, some 119, none, .op .quiet (oMv (.tmp 7)), []⟩,
                            ⟨4, some 120, none, .op .quiet (oMv (.tmp 15)), []⟩,
                            ⟨5, some 121, none, .op .quiet (oIdxS 1 (.tmp 119) (.tmp 120)), []⟩,
                            ⟨6, some 122, none, .op .reads (oLoad (.tmp 121)), []⟩,
                            ⟨7, some 123, none, .op .quiet (oArith .add (.tmp 118) (.tmp 122)), []⟩,
                            ⟨8, some 124, none, .op .quiet (oMv (.tmp 7)), []⟩,
                            ⟨9, some 125, none, .op .quiet (oMv (.tmp 17)), []⟩,
                            ⟨10, some 126, none, .op .quiet (oIdxS 1 (.tmp 124) (.tmp 125)), []⟩,
                            ⟨11, some 127, none, .op .reads (oLoad (.tmp 126)), []⟩,
                            ⟨12, some 128, none, .op .quiet (oArith .add (.tmp 123) (.tmp 127)), []⟩,
                            ⟨13, some 129, none, .op .quiet (oArith .quo (.tmp 128) (.val (.int .i64 2))), []⟩,
                            ⟨14, some 130, none, .op .quiet (oIdxS 1 (.tmp 116) (.tmp 117)), []⟩,
                            ⟨15, none, none, .op .hard (oStore 1 (.tmp 130) (.tmp 129)), []⟩])
                          (.seq
                           (.drawn [⟨0, some 131, none, .op .reads (oLoad (.tmp 6)), []⟩,
                             ⟨1, some 132, none, .op .quiet (oMv (.tmp 17)), []⟩,
                             ⟨2, some 133, none, .op .quiet (oMv (.tmp 18)), []⟩,
                             ⟨3, some 134, none, .op .reads (oLoad (.tmp 6)), []⟩,
                             ⟨4, some 135, none, .op .quiet (oMv (.tmp 13)), []⟩,
                             ⟨5, some 136, none, .op .quiet (oIdxS 1 (.tmp 134) (.tmp 135)), []⟩,
                             ⟨6, some 137, none, .op .reads (oLoad (.tmp 136)), []⟩,
                             ⟨7, some 138, none, .op .quiet (oArith .sub (.tmp 133) (.tmp 137)), []⟩,
                             ⟨8, some 139, none, .op .quiet (oIdxS 1 (.tmp 131) (.tmp 132)), []⟩,
                             ⟨9, none, none, .op .hard (oStore 1 (.tmp 139) (.tmp 138)), []⟩])
                           (.seq
                            (.ops [⟨0, some 140, none, .op .quiet (oMv (.tmp 9)), []⟩,
                              ⟨1, some 141, none, .op .quiet (oMv (.tmp 15)), []⟩,
                              ⟨2, some 142, none, .op .quiet (oMv (.tmp 9)), []⟩,
                              ⟨3, some 143, none, .op .quiet (oMv (.tmp 13)), []⟩,
                              ⟨4, some 144, none, .op .quiet (oMv (.tmp 13)), []⟩,
                              ⟨5, some 145, none, .op .quiet (oMv (.tmp 17)), []⟩,
                              ⟨6, some 146, none, .op .quiet (oIdxS 1 (.tmp 140) (.tmp 141)), []⟩,
                              ⟨7, none, none, .op .hard (oStore 1 (.tmp 146) (.tmp 144)), []⟩,
                              ⟨8, some 147, none, .op .quiet (oIdxS 1 (.tmp 142) (.tmp 143)), []⟩,
                              ⟨9, none, none, .op .hard (oStore 1 (.tmp 147) (.tmp 145)), []⟩])
                            (.seq
                             (.ops [⟨0, some 148, none, .op .quiet (oMv (.tmp 16)), []⟩,
                               ⟨1, some 149, none, .op .quiet (oMv (.tmp 17)), []⟩,
                               ⟨2, some 150, none, .op .quiet (oArith .neq (.tmp 148) (.tmp 149)), []⟩])
                             (.cond (.tmp 150)
                              (.seq
                               (.ops [⟨0, some 151, none, .op .quiet (oMv (.tmp 11)), []⟩,
                                 ⟨1, some 152, none, .op .quiet (oMv (.tmp 16)), []⟩,
                                 ⟨2, some 153, none, .op .reads (oLoad (.tmp 6)), []⟩,
                                 ⟨3, some 154, none, .op .quiet (oMv (.tmp 13)), []⟩,
                                 ⟨4, some 155, none, .op .quiet (oIdxS 1 (.tmp 153) (.tmp 154)), []⟩,
                                 ⟨5, some 156, none, .op .reads (oLoad (.tmp 155)), []⟩,
                                 ⟨6, some 157, none, .op .quiet (oNeg (.tmp 156)), []⟩,
                                 ⟨7, some 158, none, .call (.tmp 151) [(.tmp 152), (.tmp 157)], []⟩])
                               (.seq
                                (.ops [⟨0, some 159, none, .op .quiet (oMv (.tmp 8)), []⟩,
                                  ⟨1, some 160, none, .op .quiet (oMv (.tmp 13)), []⟩,
                                  ⟨2, some 161, none, .op .quiet (oMv (.tmp 16)), []⟩,
                                  ⟨3, some 162, none, .op .quiet (oIdxS 1 (.tmp 159) (.tmp 160)), []⟩,
                                  ⟨4, none, none, .op .hard (oStore 1 (.tmp 162) (.tmp 161)), []⟩])
                                (.ops [⟨0, some 163, none, .op .quiet (oMv (.tmp 9)), []⟩,
                                  ⟨1, some 164, none, .op .quiet (oMv (.tmp 14)), []⟩,
                                  ⟨2, some 165, none, .op .quiet (oMv (.tmp 14)), []⟩,
                                  ⟨3, some 166, none, .op .reads (oLen .slice (.tmp 165)), []⟩,
                                  ⟨4, some 167, none, .op .quiet (oArith .sub (.tmp 166) (.val (.int .i64 2))), []⟩,
                                  ⟨5, some 168, none, .op .quiet (oIdxS 1 (.tmp 164) (.tmp 167)), []⟩,
                                  ⟨6, some 169, none, .op .reads (oLoad (.tmp 168)), []⟩,
                                  ⟨7, some 170, none, .op .quiet (oIdxS 1 (.tmp 163) (.tmp 169)), []⟩,
                                  ⟨8, none, none, .op .hard (oStore 1 (.tmp 170) (.val (.int .i64 (-1)))), []⟩])))
                              (.skip))))))))))))))
                 (.ops [⟨0, some 59, none, .op .quiet (oMv (.tmp 12)), []⟩,
                   ⟨1, some 60, none, .op .quiet (oArith .add (.tmp 59) (.val (.int .i64 1))), []⟩,
                   ⟨2, some 12, none, .op .quiet (oMv (.tmp 60)), []⟩]))))))
            (.seq
             (.ops [⟨0, some 171, none, .op .quiet (oMv (.tmp 5)), []⟩,
               ⟨1, some 172, none, .op .quiet (oMkSlice 2 16 [(.int .i64 0), (.int .i64 0)] (.tmp 171) (.tmp 171)), []⟩,
               ⟨2, some 21, none, .op .quiet (oMv (.tmp 172)), []⟩])
             (.seq
              (.ops [⟨0, some 173, none, .op .quiet (oMv (.tmp 0)), []⟩,
                ⟨1, some 174, none, .op .quiet (oIdxS 1 (.tmp 173) (.val (.int .i64 0))), []⟩,
                ⟨2, some 175, none, .op .reads (oLoad (.tmp 174)), []⟩,
                ⟨3, some 176, none, .op .quiet (oBuildSlice 1 1 [(.int .i64 0)] [(0, 1)] [(.tmp 175)]), []⟩,
                ⟨4, some 22, none, .op .quiet (oMv (.tmp 176)), []⟩])
              (.seq
               (.block 6
                (.loop
                 (.seq
                  (.seq
                   (.ops [⟨0, some 177, none, .op .quiet (oMv (.tmp 22)), []⟩,
                     ⟨1, some 178, none, .op .reads (oLen .slice (.tmp 177)), []⟩,
                     ⟨2, some 179, none, .op .quiet (oArith .gtr (.tmp 178) (.val (.int .i64 0))), []⟩])
                   (.cond (.tmp 179)
                    (.skip)
                    (.exit 6)))
                  (.block 7
                   (.seq
                    (.ops [⟨0, some 180, none, .op .quiet (oMv (.tmp 22)), []⟩,
                      ⟨1, some 181, none, .op .quiet (oMv (.tmp 22)), []⟩,
                      ⟨2, some 182, none, .op .reads (oLen .slice (.tmp 181)), []⟩,
                      ⟨3, some 183, none, .op .quiet (oArith .sub (.tmp 182) (.val (.int .i64 1))), []⟩,
                      ⟨4, some 184, none, .op .quiet (oIdxS 1 (.tmp 180) (.tmp 183)), []⟩,
                      ⟨5, some 185, none, .op .reads (oLoad (.tmp 184)), []⟩,
                      ⟨6, some 23, none, .op .quiet (oMv (.tmp 185)), []⟩])
                    (.seq
                     (.ops [⟨0, some 186, none, .op .quiet (oMv (.tmp 22)), []⟩,
                       ⟨1, some 187, none, .op .quiet (oMv (.tmp 22)), []⟩,
                       ⟨2, some 188, none, .op .reads (oLen .slice (.tmp 187)), []⟩,
                       ⟨3, some 189, none, .op .quiet (oArith .sub (.tmp 188) (.val (.int .i64 1))), []⟩,
                       ⟨4, some 190, none, .op .quiet (oSlice 1 (.tmp 186) none (some (.tmp 189)) none), []⟩,
                       ⟨5, some 22, none, .op .quiet (oMv (.tmp 190)), []⟩])
                     (.seq
                      (.ops [⟨0, some 191, none, .op .quiet (oMv (.tmp 21)), []⟩,
                        ⟨1, some 192, none, .op .quiet (oMv (.tmp 23)), []⟩,
                        ⟨2, some 193, none, .op .quiet (oMv (.tmp 7)), []⟩,
                        ⟨3, some 194, none, .op .quiet (oMv (.tmp 23)), []⟩,
                        ⟨4, some 195, none, .op .quiet (oIdxS 1 (.tmp 193) (.tmp 194)), []⟩,
                        ⟨5, some 196, none, .op .reads (oLoad (.tmp 195)), []⟩,
                        ⟨6, some 197, none, .op .quiet (oIdxS 2 (.tmp 191) (.tmp 192)), []⟩,
                        ⟨7, some 198, none, .op .quiet (oFieldAddr 1 (.tmp 197)), []⟩,
                        ⟨8, none, none, .op .hard (oStore 1 (.tmp 198) (.tmp 196)), []⟩])
                      (.seq
                       (.drawn [⟨0, some 199, none, .op .quiet (oMv (.tmp 8)), []⟩,
                         ⟨1, some 200, none, .op .quiet (oMv (.tmp 23)), []⟩,
                         ⟨2, some 201, none, .op .quiet (oIdxS 1 (.tmp 199) (.tmp 200)), []⟩,
                         ⟨3, some 202, none, .op .reads (oLoad (.tmp 201)), []⟩,
                         ⟨4, some 203, none, .op .quiet (oMv (.tmp 9)), []⟩,
                         ⟨5, some 204, none, .op .quiet (oMv (.tmp 23)), []⟩,
                         ⟨6, some 205, none, .op .quiet (oIdxS 1 (.tmp 203) (.tmp 204)), []⟩,
                         ⟨7, some 206, none, .op .reads (oLoad (.tmp 205)), []⟩,
                         ⟨8, some 207, none, .op .quiet (oBuild [(.int .i64 0), (.int .i64 0)] [(0, 1), (1, 1)] [(.tmp 202), (.tmp 206)]), []⟩,
                         ⟨9, some 208, none, .op .quiet (oMv (.val (.int .i64 0))), []⟩])
                       (.block 8
                        (.loop
                         (.seq
                          (.ops [⟨0, some 209, none, .op .quiet (oArith .lss (.tmp 208) (.val (.int .i64 2))), []⟩])
                          (.seq
                           (.cond (.tmp 209)
                            (.skip)
                            (.exit 8))
                           (.seq
                            (.block 9
                             (.seq
                              (.ops [⟨0, some 210, none, .op .quiet (oIndexA false 1 2 (.tmp 207) (.tmp 208)), []⟩,
                                ⟨1, some 25, none, .op .quiet (oMv (.tmp 210)), []⟩])
                              (.seq
                               (.ops [⟨0, some 211, none, .op .quiet (oMv (.tmp 25)), []⟩,
                                 ⟨1, some 212, none, .op .quiet (oArith .geq (.tmp 211) (.val (.int .i64 0))), []⟩])
                               (.cond (.tmp 212)
                                (.seq
                                 (.drawn [⟨0, some 213, none, .op .quiet (oMv (.tmp 21)), []⟩,
                                   ⟨1, some 214, none, .op .quiet (oMv (.tmp 25)), []⟩,
                                   ⟨2, some 215, none, .op .quiet (oMv (.tmp 21)), []⟩,
                                   ⟨3, some 216, none, .op .quiet (oMv (.tmp 23)), []⟩,
                                   ⟨4, some 217, none, .op .quiet (oIdxS 2 (.tmp 215) (.tmp 216)), []⟩,
                                   ⟨5, some 218, none, .op .quiet (oFieldAddr 0 (.tmp 217)), []⟩,
                                   ⟨6, some 219, none, .op .reads (oLoad (.tmp 218)), []⟩,
                                   ⟨7, some 220, none, .op .reads (oLoad (.tmp 6)), []⟩,
                                   ⟨8, some 221, none, .op .quiet (oMv (.tmp 25)), []⟩,
                                   ⟨9, some 222, none, .op .quiet (oIdxS 1 (.tmp 220) (.tmp 221)), []⟩,
                                   ⟨10, some 223, none, .op .reads (oLoad (.tmp 222)), []⟩,
                                   ⟨11, some 224, none, .op .quiet (oArith .add (.tmp 219) (.tmp 223)), []⟩,
                                   ⟨12, some 225, none, .op .quiet (oIdxS 2 (.tmp 213) (.tmp 214)), []⟩,
                                   ⟨13, some 226, none, .op .quiet (oFieldAddr 0 (.tmp 225)), []⟩,
                                   ⟨14, none, none, .op .hard (oStore 1 (.tmp 226) (.tmp 224)), []⟩])
                                 (.ops [⟨0, some 227, none, .op .quiet (oMv (.tmp 22)), []⟩,
                                   ⟨1, some 228, none, .op .quiet (oMv (.tmp 25)), []⟩,
                                   ⟨2, some 229, none, .op .quiet (oBuildSlice 1 1 [(.int .i64 0)] [(0, 1)] [(.tmp 228)]), []⟩,
                                   ⟨3, some 230, none, .op .hard (oAppend 1 8 (.tmp 227) (.tmp 229)), []⟩,
                                   ⟨4, some 22, none, .op .quiet (oMv (.tmp 230)), []⟩]))
                                (.skip)))))
                            (.ops [⟨0, some 231, none, .op .quiet (oArith .add (.tmp 208) (.val (.int .i64 1))), []⟩,
                              ⟨1, some 208, none, .op .quiet (oMv (.tmp 231)), []⟩]))))))))))))))
               (.seq
                (.ops [⟨0, some 232, none, .op .quiet (oMv (.tmp 21)), []⟩,
                  ⟨1, some 4, none, .op .quiet (oMv (.tmp 232)), []⟩])
                (.ret)))))))))))))))⟩
/-- tangram/csr.New$1 -/
noncomputable def a151 : AF := ⟨[],
 (.seq
   (.drawn [⟨0, some 5, none, .op .reads (oLoad (.tmp 1)), []⟩,
     ⟨1, some 6, none, .op .reads (oLoad (.tmp 2)), []⟩,
     ⟨2, some 7, none, .op .quiet (oNilCheck (.tmp 6)), []⟩,
     ⟨3, some 8, none, .op .quiet (oFieldAddr 0 (.tmp 7)), []⟩,
     ⟨4, some 9, none, .op .reads (oLoad (.tmp 8)), []⟩,
     ⟨5, some 10, none, .op .quiet (oMv (.tmp 0)), []⟩,
     ⟨6, some 11, none, .op .quiet (oIdxS 1 (.tmp 9) (.tmp 10)), []⟩,
     ⟨7, some 12, none, .op .reads (oLoad (.tmp 11)), []⟩,
     ⟨8, some 13, none, .op .quiet (oIdxS 1 (.tmp 5) (.tmp 12)), []⟩,
     ⟨9, some 14, none, .op .reads (oLoad (.tmp 13)), []⟩,
     ⟨10, some 4, none, .op .quiet (oMv (.tmp 14)), []⟩])
   (.seq
    (.drawn [⟨0, some 15, none, .op .reads (oLoad (.tmp 2)), []⟩,
      ⟨1, some 16, none, .op .quiet (oNilCheck (.tmp 15)), []⟩,
      ⟨2, some 17, none, .op .quiet (oFieldAddr 2 (.tmp 16)), []⟩,
      ⟨3, some 18, none, .op .reads (oLoad (.tmp 17)), []⟩,
      ⟨4, some 19, none, .op .quiet (oMv (.tmp 4)), []⟩,
      ⟨5, some 20, none, .op .reads (oLoad (.tmp 2)), []⟩,
      ⟨6, some 21, none, .op .quiet (oNilCheck (.tmp 20)), []⟩,
      ⟨7, some 22, none, .op .quiet (oFieldAddr 3 (.tmp 21)), []⟩,
      ⟨8, some 23, none, .op .reads (oLoad (.tmp 22)), []⟩,
      ⟨9, some 24, none, .op .quiet (oMv (.tmp 0)), []⟩,
      ⟨10, some 25, none, .op .quiet (oMv (.tmp 0)), []⟩,
      ⟨11, some 26, none, .op .quiet (oMv (.tmp 4)), []⟩,
      ⟨12, some 27, none, .op .quiet (oIdxS 1 (.tmp 18) (.tmp 19)), []⟩,
      ⟨13, none, none, .op .hard (oStore 1 (.tmp 27) (.tmp 25)), []⟩,
      ⟨14, some 28, none, .op .quiet (oIdxS 1 (.tmp 23) (.tmp 24)), []⟩,
      ⟨15, none, none, .op .hard (oStore 1 (.tmp 28) (.tmp 26)), []⟩])
    (.drawn [⟨0, some 29, none, .op .reads (oLoad (.tmp 1)), []⟩,
      ⟨1, some 30, none, .op .reads (oLoad (.tmp 2)), []⟩,
      ⟨2, some 31, none, .op .quiet (oNilCheck (.tmp 30)), []⟩,
      ⟨3, some 32, none, .op .quiet (oFieldAddr 0 (.tmp 31)), []⟩,
      ⟨4, some 33, none, .op .reads (oLoad (.tmp 32)), []⟩,
      ⟨5, some 34, none, .op .quiet (oMv (.tmp 0)), []⟩,
      ⟨6, some 35, none, .op .quiet (oIdxS 1 (.tmp 33) (.tmp 34)), []⟩,
      ⟨7, some 36, none, .op .reads (oLoad (.tmp 35)), []⟩,
      ⟨8, some 37, none, .op .quiet (oIdxS 1 (.tmp 29) (.tmp 36)), []⟩,
      ⟨9, some 38, none, .op .reads (oLoad (.tmp 37)), []⟩,
      ⟨10, some 39, none, .op .quiet (oArith .add (.tmp 38) (.val (.int .i64 1))), []⟩,
      ⟨11, some 40, none, .op .quiet (oIdxS 1 (.tmp 29) (.tmp 36)), []⟩,
      ⟨12, none, none, .op .hard (oStore 1 (.tmp 40) (.tmp 39)), []⟩])))⟩
/-- tangram/simple.compare -/
noncomputable def a154 : AF := ⟨[.tmp 4],
 (.seq
   (.ops [⟨0, some 2, none, .op .quiet (oBox (.tmp 0)), []⟩,
     ⟨1, some 3, none, .op .quiet (oBox (.tmp 1)), []⟩,
     ⟨2, some 4, none, .op .quiet (oMv (.val (.int .i64 0))), []⟩])
   (.seq
    (.seq
     (.ops [⟨0, some 5, none, .op .quiet (oFieldAddr 0 (.tmp 2)), []⟩,
       ⟨1, some 6, none, .op .reads (oLoad (.tmp 5)), []⟩,
       ⟨2, some 7, none, .op .quiet (oFieldAddr 0 (.tmp 3)), []⟩,
       ⟨3, some 8, none, .op .reads (oLoad (.tmp 7)), []⟩,
       ⟨4, some 9, none, .op .quiet (oArith .neq (.tmp 6) (.tmp 8)), []⟩])
     (.cond (.tmp 9)
      (.seq
       (.ops [⟨0, some 10, none, .op .quiet (oFieldAddr 0 (.tmp 2)), []⟩,
         ⟨1, some 11, none, .op .reads (oLoad (.tmp 10)), []⟩,
         ⟨2, some 12, none, .op .quiet (oFieldAddr 0 (.tmp 3)), []⟩,
         ⟨3, some 13, none, .op .reads (oLoad (.tmp 12)), []⟩,
         ⟨4, some 14, none, .op .quiet (oArith .sub (.tmp 11) (.tmp 13)), []⟩,
         ⟨5, some 4, none, .op .quiet (oMv (.tmp 14)), []⟩])
       (.ret))
      (.skip)))
    (.seq
     (.ops [⟨0, some 15, none, .op .quiet (oFieldAddr 1 (.tmp 2)), []⟩,
       ⟨1, some 16, none, .op .reads (oLoad (.tmp 15)), []⟩,
       ⟨2, some 17, none, .op .quiet (oFieldAddr 1 (.tmp 3)), []⟩,
       ⟨3, some 18, none, .op .reads (oLoad (.tmp 17)), []⟩,
       ⟨4, some 19, none, .op .quiet (oArith .sub (.tmp 16) (.tmp 18)), []⟩,
       ⟨5, some 4, none, .op .quiet (oMv (.tmp 19)), []⟩])
     (.ret))))⟩
/-- (*tangram/csr.Adj).leave -/
noncomputable def a155 : AF := ⟨[.tmp 4],
 (.seq
   (.ops [⟨0, some 4, none, .op .quiet (oMv (.val (.slice none 0 0))), []⟩])
   (.seq
    (.seq
     (.ops [⟨0, some 5, none, .op .quiet (oMv (.tmp 0)), []⟩,
       ⟨1, some 6, none, .op .quiet (oMv (.tmp 1)), []⟩,
       ⟨2, some 7, none, .callF 284 [(.tmp 5), (.tmp 6)], []⟩,
       ⟨3, some 8, none, .op .quiet (oNot (.tmp 7)), []⟩])
     (.cond (.tmp 8)
      (.seq
       (.ops [⟨0, some 4, none, .op .quiet (oMv (.val (.slice none 0 0))), []⟩])
       (.ret))
      (.skip)))
    (.seq
     (.drawn [⟨0, some 9, none, .op .quiet (oMv (.tmp 0)), []⟩,
       ⟨1, some 10, none, .op .quiet (oNilCheck (.tmp 9)), []⟩,
       ⟨2, some 11, none, .op .quiet (oFieldAddr 2 (.tmp 10)), []⟩,
       ⟨3, some 12, none, .op .reads (oLoad (.tmp 11)), []⟩,
       ⟨4, some 13, none, .op .quiet (oMv (.tmp 0)), []⟩,
       ⟨5, some 14, none, .op .quiet (oNilCheck (.tmp 13)), []⟩,
       ⟨6, some 15, none, .op .quiet (oFieldAddr 1 (.tmp 14)), []⟩,
       ⟨7, some 16, none, .op .reads (oLoad (.tmp 15)), []⟩,
       ⟨8, some 17, none, .op .quiet (oMv (.tmp 1)), []⟩,
       ⟨9, some 18, none, .op .quiet (oIdxS 1 (.tmp 16) (.tmp 17)), []⟩,
       ⟨10, some 19, none, .op .reads (oLoad (.tmp 18)), []⟩,
       ⟨11, some 20, none, .op .quiet (oMv (.tmp 0)), []⟩,
       ⟨12, some 21, none, .op .quiet (oNilCheck (.tmp 20)), []⟩,
       ⟨13, some 22, none, .op .quiet (oFieldAddr 1 (.tmp 21)), []⟩,
       ⟨14, some 23, none, .op .reads (oLoad (.tmp 22)), []⟩,
       ⟨15, some 24, none, .op .quiet (oMv (.tmp 1)), []⟩,
       ⟨16, some 25, none, .op .quiet (oArith .add (.tmp 24) (.val (.int .i64 1))), []⟩,
       ⟨17, some 26, none, .op .quiet (oIdxS 1 (.tmp 23) (.tmp 25)), []⟩,
       ⟨18, some 27, none, .op .reads (oLoad (.tmp 26)), []⟩,
       ⟨19, some 28, none, .op .quiet (oSlice 1 (.tmp 12) (some (.tmp 19)) (some (.tmp 27)) none), []⟩,
       ⟨20, some 4, none, .op .quiet (oMv (.tmp 28)), []⟩])
     (.ret))))⟩
/-- (*tangram/csr.Adj).half -/
noncomputable def a158 : AF := ⟨[.tmp 4],
 (.seq
   (.ops [⟨0, some 4, none, .op .quiet (oMv (.val (.bool false))), []⟩])
   (.seq
    (.ops [⟨0, some 5, none, .op .quiet (oMv (.tmp 1)), []⟩,
      ⟨1, some 6, none, .op .quiet (oArith .geq (.tmp 5) (.val (.int .i64 0))), []⟩,
      ⟨2, some 7, none, .op .quiet (oMv (.tmp 6)), []⟩,
      ⟨3, some 8, some (7, true), .op .quiet (oMv (.tmp 1)), []⟩,
      ⟨4, some 9, some (7, true), .op .quiet (oMv (.tmp 0)), []⟩,
      ⟨5, some 10, some (7, true), .callF 166 [(.tmp 9)], []⟩,
      ⟨6, some 11, some (7, true), .op .quiet (oArith .mul (.val (.int .i64 2)) (.tmp 10)), []⟩,
      ⟨7, some 12, some (7, true), .op .quiet (oArith .lss (.tmp 8) (.tmp 11)), []⟩,
      ⟨8, some 13, none, .op .quiet (oPick (.tmp 7) (.tmp 12) (.val (.bool false))), []⟩,
      ⟨9, some 4, none, .op .quiet (oMv (.tmp 13)), []⟩])
    (.ret)))⟩
/-- tangram/dfs.filled -/
noncomputable def a165 : AF := ⟨[.tmp 4],
 (.seq
   (.ops [⟨0, some 4, none, .op .quiet (oMv (.val (.slice none 0 0))), []⟩])
   (.seq
    (.ops [⟨0, some 7, none, .op .quiet (oMv (.tmp 0)), []⟩,
      ⟨1, some 8, none, .op .quiet (oMkSlice 1 8 [(.int .i64 0)] (.tmp 7) (.tmp 7)), []⟩,
      ⟨2, some 5, none, .op .quiet (oMv (.tmp 8)), []⟩])
    (.seq
     (.seq
      (.ops [⟨0, some 9, none, .op .quiet (oMv (.tmp 5)), []⟩,
        ⟨1, some 10, none, .op .reads (oLen .slice (.tmp 9)), []⟩,
        ⟨2, some 11, none, .op .quiet (oMv (.val (.int .i64 0))), []⟩])
      (.block 0
       (.loop
        (.seq
         (.ops [⟨0, some 12, none, .op .quiet (oArith .lss (.tmp 11) (.tmp 10)), []⟩])
         (.seq
          (.cond (.tmp 12)
           (.skip)
           (.exit 0))
          (.seq
           (.block 1
            (.seq
             (.ops [⟨0, some 13, none, .op .quiet (oMv (.tmp 11)), []⟩,
               ⟨1, some 6, none, .op .quiet (oMv (.tmp 13)), []⟩])
             (.ops [⟨0, some 14, none, .op .quiet (oMv (.tmp 5)), []⟩,
               ⟨1, some 15, none, .op .quiet (oMv (.tmp 6)), []⟩,
               ⟨2, some 16, none, .op .quiet (oMv (.tmp 1)), []⟩,
               ⟨3, some 17, none, .op .quiet (oIdxS 1 (.tmp 14) (.tmp 15)), []⟩,
               ⟨4, none, none, .op .hard (oStore 1 (.tmp 17) (.tmp 16)), []⟩])))
           (.ops [⟨0, some 18, none, .op .quiet (oArith .add (.tmp 11) (.val (.int .i64 1))), []⟩,
             ⟨1, some 11, none, .op .quiet (oMv (.tmp 18)), []⟩])))))))
     (.seq
      (.ops [⟨0, some 19, none, .op .quiet (oMv (.tmp 5)), []⟩,
        ⟨1, some 4, none, .op .quiet (oMv (.tmp 19)), []⟩])
      (.ret)))))⟩
/-- (*tangram/csr.Adj).M -/
noncomputable def a166 : AF := ⟨[.tmp 2],
 (.seq
   (.ops [⟨0, some 2, none, .op .quiet (oMv (.val (.int .i64 0))), []⟩])
   (.seq
    (.seq
     (.ops [⟨0, some 3, none, .op .quiet (oMv (.tmp 0)), []⟩,
       ⟨1, some 4, none, .op .quiet (oEq false .ptrNil (.tmp 3) (.val (.pointer none))), []⟩])
     (.cond (.tmp 4)
      (.seq
       (.ops [⟨0, some 2, none, .op .quiet (oMv (.val (.int .i64 0))), []⟩])
       (.ret))
      (.skip)))
    (.seq
     (.ops [⟨0, some 5, none, .op .quiet (oMv (.tmp 0)), []⟩,
       ⟨1, some 6, none, .op .quiet (oNilCheck (.tmp 5)), []⟩,
       ⟨2, some 7, none, .op .quiet (oFieldAddr 0 (.tmp 6)), []⟩,
       ⟨3, some 8, none, .op .reads (oLoad (.tmp 7)), []⟩,
       ⟨4, some 9, none, .op .reads (oLen .slice (.tmp 8)), []⟩,
       ⟨5, some 10, none, .op .quiet (oArith .quo (.tmp 9) (.val (.int .i64 2))), []⟩,
       ⟨6, some 2, none, .op .quiet (oMv (.tmp 10)), []⟩])
     (.ret))))⟩
/-- tangram/dfs.Walk$1 -/
noncomputable def a167 : AF := ⟨[],
 (.seq
   (.drawn [⟨0, some 9, none, .op .quiet (oFieldAddr 0 (.tmp 3)), []⟩,
     ⟨1, some 10, none, .op .reads (oLoad (.tmp 9)), []⟩,
     ⟨2, some 11, none, .op .quiet (oMv (.tmp 0)), []⟩,
     ⟨3, some 12, none, .op .quiet (oFieldAddr 1 (.tmp 3)), []⟩,
     ⟨4, some 13, none, .op .reads (oLoad (.tmp 12)), []⟩,
     ⟨5, some 14, none, .op .quiet (oMv (.tmp 0)), []⟩,
     ⟨6, some 15, none, .op .quiet (oMv (.tmp 1)), []⟩,
     ⟨7, some 16, none, .op .quiet (oMv (.tmp 2)), []⟩,
     ⟨8, some 17, none, .op .quiet (oIdxS 1 (.tmp 10) (.tmp 11)), []⟩,
     ⟨9, none, none, .op .hard (oStore 1 (.tmp 17) (.tmp 15)), [4]⟩,
     ⟨10, some 18, none, .op .quiet (oIdxS 1 (.tmp 13) (.tmp 14)), []⟩,
     ⟨11, none, none, .op .hard (oStore 1 (.tmp 18) (.tmp 16)), []⟩])
   (.seq
    (.ops [⟨0, some 19, none, .op .quiet (oFieldAddr 2 (.tmp 3)), []⟩,
      ⟨1, some 20, none, .op .reads (oLoad (.tmp 19)), []⟩,
      ⟨2, some 21, none, .op .quiet (oMv (.tmp 0)), []⟩,
      ⟨3, some 22, none, .op .quiet (oBuildSlice 1 1 [(.int .i64 0)] [(0, 1)] [(.tmp 21)]), []⟩,
      ⟨4, some 23, none, .op .hard (oAppend 1 8 (.tmp 20) (.tmp 22)), []⟩,
      ⟨5, some 24, none, .op .quiet (oFieldAddr 2 (.tmp 3)), []⟩,
      ⟨6, none, none, .op .hard (oStore 1 (.tmp 24) (.tmp 23)), []⟩])
    (.ops [⟨0, some 25, none, .op .quiet (oMv (.tmp 0)), []⟩,
      ⟨1, some 26, none, .op .reads (oLoad (.tmp 5)), []⟩,
      ⟨2, some 27, none, .op .quiet (oMv (.tmp 0)), []⟩,
      ⟨3, some 28, none, .callF 169 [(.tmp 26), (.tmp 27)], []⟩,
      ⟨4, some 29, none, .op .quiet (oBuild [(.int .i64 0), (.int .i64 0)] [(0, 1), (1, 1)] [(.tmp 25), (.tmp 28)]), []⟩,
      ⟨5, some 30, none, .callF 168 [(.tmp 4), (.tmp 29)], []⟩])))⟩
/-- (*tangram/dfs.stack[tangram/dfs.look]).push -/
noncomputable def a168 : AF := ⟨[],
 (.seq
   (.ops [⟨0, some 3, none, .op .quiet (oBox (.tmp 1)), []⟩])
   (.drawn [⟨0, some 4, none, .op .quiet (oMv (.tmp 0)), []⟩,
     ⟨1, some 5, none, .op .quiet (oMv (.tmp 0)), []⟩,
     ⟨2, some 6, none, .op .quiet (oNilCheck (.tmp 5)), []⟩,
     ⟨3, some 7, none, .op .quiet (oFieldAddr 0 (.tmp 6)), []⟩,
     ⟨4, some 8, none, .op .reads (oLoad (.tmp 7)), []⟩,
     ⟨5, some 9, none, .op .reads (oLoadN 2 (.tmp 3)), []⟩,
     ⟨6, some 10, none, .op .quiet (oBuildSlice 2 1 [(.int .i64 0), (.int .i64 0)] [(0, 2)] [(.tmp 9)]), []⟩,
     ⟨7, some 11, none, .op .hard (oAppend 2 16 (.tmp 8) (.tmp 10)), []⟩,
     ⟨8, some 12, none, .op .quiet (oNilCheck (.tmp 4)), []⟩,
     ⟨9, some 13, none, .op .quiet (oFieldAddr 0 (.tmp 12)), []⟩,
     ⟨10, none, none, .op .hard (oStore 1 (.tmp 13) (.tmp 11)), []⟩]))⟩
/-- (*tangram/csr.Adj).First -/
noncomputable def a169 : AF := ⟨[.tmp 4],
 (.seq
   (.ops [⟨0, some 4, none, .op .quiet (oMv (.val (.int .i64 0))), []⟩])
   (.seq
    (.seq
     (.ops [⟨0, some 5, none, .op .quiet (oMv (.tmp 0)), []⟩,
       ⟨1, some 6, none, .op .quiet (oMv (.tmp 1)), []⟩,
       ⟨2, some 7, none, .callF 93 [(.tmp 5), (.tmp 6)], []⟩,
       ⟨3, some 8, none, .op .quiet (oArith .eql (.tmp 7) (.val (.int .i64 0))), []⟩])
     (.cond (.tmp 8)
      (.seq
       (.ops [⟨0, some 4, none, .op .quiet (oMv (.val (.int .i64 (-1)))), []⟩])
       (.ret))
      (.skip)))
    (.seq
     (.drawn [⟨0, some 9, none, .op .quiet (oMv (.tmp 0)), []⟩,
       ⟨1, some 10, none, .op .quiet (oNilCheck (.tmp 9)), []⟩,
       ⟨2, some 11, none, .op .quiet (oFieldAddr 2 (.tmp 10)), []⟩,
       ⟨3, some 12, none, .op .reads (oLoad (.tmp 11)), []⟩,
       ⟨4, some 13, none, .op .quiet (oMv (.tmp 0)), []⟩,
       ⟨5, some 14, none, .op .quiet (oNilCheck (.tmp 13)), []⟩,
       ⟨6, some 15, none, .op .quiet (oFieldAddr 1 (.tmp 14)), []⟩,
       ⟨7, some 16, none, .op .reads (oLoad (.tmp 15)), []⟩,
       ⟨8, some 17, none, .op .quiet (oMv (.tmp 1)), []⟩,
       ⟨9, some 18, none, .op .quiet (oIdxS 1 (.tmp 16) (.tmp 17)), []⟩,
       ⟨10, some 19, none, .op .reads (oLoad (.tmp 18)), []⟩,
       ⟨11, some 20, none, .op .quiet (oIdxS 1 (.tmp 12) (.tmp 19)), []⟩,
       ⟨12, some 21, none, .op .reads (oLoad (.tmp 20)), []⟩,
       ⟨13, some 4, none, .op .quiet (oMv (.tmp 21)), []⟩])
     (.ret))))⟩
/-- (*tangram/dfs.stack[tangram/dfs.look]).some -/
noncomputable def a170 : AF := ⟨[.tmp 2],
 (.seq
   (.ops [⟨0, some 2, none, .op .quiet (oMv (.val (.bool false))), []⟩])
   (.seq
    (.ops [⟨0, some 3, none, .op .quiet (oMv (.tmp 0)), []⟩,
      ⟨1, some 4, none, .op .quiet (oNilCheck (.tmp 3)), []⟩,
      ⟨2, some 5, none, .op .quiet (oFieldAddr 0 (.tmp 4)), []⟩,
      ⟨3, some 6, none, .op .reads (oLoad (.tmp 5)), []⟩,
      ⟨4, some 7, none, .op .reads (oLen .slice (.tmp 6)), []⟩,
      ⟨5, some 8, none, .op .quiet (oArith .gtr (.tmp 7) (.val (.int .i64 0))), []⟩,
      ⟨6, some 2, none, .op .quiet (oMv (.tmp 8)), []⟩])
    (.ret)))⟩
/-- (*tangram/dfs.stack[tangram/dfs.look]).top -/
noncomputable def a171 : AF := ⟨[.tmp 2],
 (.seq
   (.ops [⟨0, some 2, none, .op .quiet (oMv (.val (.pointer none))), []⟩])
   (.seq
    (.drawn [⟨0, some 3, none, .op .quiet (oMv (.tmp 0)), []⟩,
      ⟨1, some 4, none, .op .quiet (oNilCheck (.tmp 3)), []⟩,
      ⟨2, some 5, none, .op .quiet (oFieldAddr 0 (.tmp 4)), []⟩,
      ⟨3, some 6, none, .op .reads (oLoad (.tmp 5)), []⟩,
      ⟨4, some 7, none, .op .quiet (oMv (.tmp 0)), []⟩,
      ⟨5, some 8, none, .op .quiet (oNilCheck (.tmp 7)), []⟩,
      ⟨6, some 9, none, .op .quiet (oFieldAddr 0 (.tmp 8)), []⟩,
      ⟨7, some 10, none, .op .reads (oLoad (.tmp 9)), []⟩,
      ⟨8, some 11, none, .op .reads (oLen .slice (.tmp 10)), []⟩,
      ⟨9, some 12, none, .op .quiet (oArith .sub (.tmp 11) (.val (.int .i64 1))), []⟩,
      ⟨10, some 13, none, .op .quiet (oIdxS 2 (.tmp 6) (.tmp 12)), []⟩,
      ⟨11, some 2, none, .op .quiet (oMv (.tmp 13)), []⟩])
    (.ret)))⟩
/-- (*tangram/dfs.stack[tangram/dfs.look]).pop -/
noncomputable def a172 : AF := ⟨[],
 (.drawn [⟨0, some 2, none, .op .quiet (oMv (.tmp 0)), []⟩,
    ⟨1, some 3, none, .op .quiet (oMv (.tmp 0)), []⟩,
    ⟨2, some 4, none, .op .quiet (oNilCheck (.tmp 3)), []⟩,
    ⟨3, some 5, none, .op .quiet (oFieldAddr 0 (.tmp 4)), []⟩,
    ⟨4, some 6, none, .op .reads (oLoad (.tmp 5)), []⟩,
    ⟨5, some 7, none, .op .quiet (oMv (.tmp 0)), []⟩,
    ⟨6, some 8, none, .op .quiet (oNilCheck (.tmp 7)), []⟩,
    ⟨7, some 9, none, .op .quiet (oFieldAddr 0 (.tmp 8)), []⟩,
    ⟨8, some 10, none, .op .reads (oLoad (.tmp 9)), []⟩,
    ⟨9, some 11, none, .op .reads (oLen .slice (.tmp 10)), []⟩,
    ⟨10, some 12, none, .op .quiet (oArith .sub (.tmp 11) (.val (.int .i64 1))), []⟩,
    ⟨11, some 13, none, .op .quiet (oSlice 2 (.tmp 6) none (some (.tmp 12)) none), []⟩,
    ⟨12, some 14, none, .op .quiet (oNilCheck (.tmp 2)), []⟩,
    ⟨13, some 15, none, .op .quiet (oFieldAddr 0 (.tmp 14)), []⟩,
    ⟨14, none, none, .op .hard (oStore 1 (.tmp 15) (.tmp 13)), []⟩])⟩
/-- (*tangram/csr.Adj).After -/
noncomputable def a173 : AF := ⟨[.tmp 4],
 (.seq
   (.ops [⟨0, some 4, none, .op .quiet (oMv (.val (.int .i64 0))), []⟩])
   (.seq
    (.seq
     (.ops [⟨0, some 6, none, .op .quiet (oMv (.tmp 0)), []⟩,
       ⟨1, some 7, none, .op .quiet (oMv (.tmp 1)), []⟩,
       ⟨2, some 8, none, .callF 158 [(.tmp 6), (.tmp 7)], []⟩,
       ⟨3, some 9, none, .op .quiet (oNot (.tmp 8)), []⟩])
     (.cond (.tmp 9)
      (.seq
       (.ops [⟨0, some 4, none, .op .quiet (oMv (.val (.int .i64 (-1)))), []⟩])
       (.ret))
      (.skip)))
    (.seq
     (.ops [⟨0, some 10, none, .op .quiet (oMv (.tmp 0)), []⟩,
       ⟨1, some 11, none, .op .quiet (oNilCheck (.tmp 10)), []⟩,
       ⟨2, some 12, none, .op .quiet (oFieldAddr 3 (.tmp 11)), []⟩,
       ⟨3, some 13, none, .op .reads (oLoad (.tmp 12)), []⟩,
       ⟨4, some 14, none, .op .quiet (oMv (.tmp 1)), []⟩,
       ⟨5, some 15, none, .op .quiet (oIdxS 1 (.tmp 13) (.tmp 14)), []⟩,
       ⟨6, some 16, none, .op .reads (oLoad (.tmp 15)), []⟩,
       ⟨7, some 17, none, .op .quiet (oArith .add (.tmp 16) (.val (.int .i64 1))), []⟩,
       ⟨8, some 5, none, .op .quiet (oMv (.tmp 17)), []⟩])
     (.seq
      (.seq
       (.drawn [⟨0, some 18, none, .op .quiet (oMv (.tmp 5)), []⟩,
         ⟨1, some 19, none, .op .quiet (oMv (.tmp 0)), []⟩,
         ⟨2, some 20, none, .op .quiet (oNilCheck (.tmp 19)), []⟩,
         ⟨3, some 21, none, .op .quiet (oFieldAddr 1 (.tmp 20)), []⟩,
         ⟨4, some 22, none, .op .reads (oLoad (.tmp 21)), []⟩,
         ⟨5, some 23, none, .op .quiet (oMv (.tmp 0)), []⟩,
         ⟨6, some 24, none, .op .quiet (oNilCheck (.tmp 23)), []⟩,
         ⟨7, some 25, none, .op .quiet (oFieldAddr 0 (.tmp 24)), []⟩,
         ⟨8, some 26, none, .op .reads (oLoad (.tmp 25)), []⟩,
         ⟨9, some 27, none, .op .quiet (oMv (.tmp 1)), []⟩,
         ⟨10, some 28, none, .op .quiet (oIdxS 1 (.tmp 26) (.tmp 27)), []⟩,
         ⟨11, some 29, none, .op .reads (oLoad (.tmp 28)), []⟩,
         ⟨12, some 30, none, .op .quiet (oArith .add (.tmp 29) (.val (.int .i64 1))), []⟩,
         ⟨13, some 31, none, .op .quiet (oIdxS 1 (.tmp 22) (.tmp 30)), []⟩,
         ⟨14, some 32, none, .op .reads (oLoad (.tmp 31)), []⟩,
         ⟨15, some 33, none, .op .quiet (oArith .geq (.tmp 18) (.tmp 32)), []⟩])
       (.cond (.tmp 33)
        (.seq
         (.ops [⟨0, some 4, none, .op .quiet (oMv (.val (.int .i64 (-1)))), []⟩])
         (.ret))
        (.skip)))
      (.seq
       (.ops [⟨0, some 34, none, .op .quiet (oMv (.tmp 0)), []⟩,
         ⟨1, some 35, none, .op .quiet (oNilCheck (.tmp 34)), []⟩,
         ⟨2, some 36, none, .op .quiet (oFieldAddr 2 (.tmp 35)), []⟩,
         ⟨3, some 37, none, .op .reads (oLoad (.tmp 36)), []⟩,
         ⟨4, some 38, none, .op .quiet (oMv (.tmp 5)), []⟩,
         ⟨5, some 39, none, .op .quiet (oIdxS 1 (.tmp 37) (.tmp 38)), []⟩,
         ⟨6, some 40, none, .op .reads (oLoad (.tmp 39)), []⟩,
         ⟨7, some 4, none, .op .quiet (oMv (.tmp 40)), []⟩])
       (.ret))))))⟩
/-- tangram/dfs.Valid -/
noncomputable def a174 : AF := ⟨[.tmp 4],
 (.seq
   (.ops [⟨0, some 2, none, .op .quiet (oBox (.tmp 0)), []⟩,
     ⟨1, some 3, none, .op .quiet (oBox (.tmp 1)), []⟩,
     ⟨2, some 4, none, .op .quiet (oMv (.val (.bool false))), []⟩])
   (.seq
    (.seq
     (.ops [⟨0, some 18, none, .op .reads (oLoadN 2 (.tmp 2)), []⟩,
       ⟨1, some 19, none, .callF 92 [(.tmp 18)], []⟩,
       ⟨2, some 20, none, .op .quiet (oNot (.tmp 19)), []⟩,
       ⟨3, some 21, none, .op .quiet (oMv (.tmp 20)), []⟩,
       ⟨4, some 22, some (21, false), .op .quiet (oFieldAddr 0 (.tmp 3)), []⟩,
       ⟨5, some 23, some (21, false), .op .reads (oLoad (.tmp 22)), []⟩,
       ⟨6, some 24, some (21, false), .op .reads (oLen .slice (.tmp 23)), []⟩,
       ⟨7, some 25, some (21, false), .op .quiet (oFieldAddr 0 (.tmp 2)), []⟩,
       ⟨8, some 26, some (21, false), .op .reads (oLoad (.tmp 25)), []⟩,
       ⟨9, some 27, some (21, false), .op .quiet (oArith .neq (.tmp 24) (.tmp 26)), []⟩,
       ⟨10, some 28, none, .op .quiet (oPick (.tmp 21) (.val (.bool true)) (.tmp 27)), []⟩,
       ⟨11, some 29, none, .op .quiet (oMv (.tmp 28)), []⟩,
       ⟨12, some 30, some (29, false), .op .quiet (oFieldAddr 1 (.tmp 3)), []⟩,
       ⟨13, some 31, some (29, false), .op .reads (oLoad (.tmp 30)), []⟩,
       ⟨14, some 32, some (29, false), .op .reads (oLen .slice (.tmp 31)), []⟩,
       ⟨15, some 33, some (29, false), .op .quiet (oFieldAddr 0 (.tmp 2)), []⟩,
       ⟨16, some 34, some (29, false), .op .reads (oLoad (.tmp 33)), []⟩,
       ⟨17, some 35, some (29, false), .op .quiet (oArith .neq (.tmp 32) (.tmp 34)), []⟩,
       ⟨18, some 36, none, .op .quiet (oPick (.tmp 29) (.val (.bool true)) (.tmp 35)), []⟩,
       ⟨19, some 37, none, .op .quiet (oMv (.tmp 36)), []⟩,
       ⟨20, some 38, some (37, false), .op .quiet (oFieldAddr 2 (.tmp 3)), []⟩,
       ⟨21, some 39, some (37, false), .op .reads (oLoad (.tmp 38)), []⟩,
       ⟨22, some 40, some (37, false), .op .reads (oLen .slice (.tmp 39)), []⟩,
       ⟨23, some 41, some (37, false), .op .quiet (oFieldAddr 0 (.tmp 2)), []⟩,
       ⟨24, some 42, some (37, false), .op .reads (oLoad (.tmp 41)), []⟩,
       ⟨25, some 43, some (37, false), .op .quiet (oArith .neq (.tmp 40) (.tmp 42)), []⟩,
       ⟨26, some 44, none, .op .quiet (oPick (.tmp 37) (.val (.bool true)) (.tmp 43)), []⟩,
       ⟨27, some 45, none, .op .quiet (oMv (.tmp 44)), []⟩,
       ⟨28, some 46, some (45, false), .op .quiet (oFieldAddr 3 (.tmp 3)), []⟩,
       ⟨29, some 47, some (45, false), .op .reads (oLoad (.tmp 46)), []⟩,
       ⟨30, some 48, some (45, false), .op .reads (oLen .slice (.tmp 47)), []⟩,
       ⟨31, some 49, some (45, false), .op .quiet (oFieldAddr 1 (.tmp 2)), []⟩,
       ⟨32, some 50, some (45, false), .op .reads (oLoad (.tmp 49)), []⟩,
       ⟨33, some 51, some (45, false), .op .reads (oLen .slice (.tmp 50)), []⟩,
       ⟨34, some 52, some (45, false), .op .quiet (oArith .neq (.tmp 48) (.tmp 51)), []⟩,
       ⟨35, some 53, none, .op .quiet (oPick (.tmp 45) (.val (.bool true)) (.tmp 52)), []⟩])
     (.cond (.tmp 53)
      (.seq
       (.ops [⟨0, some 4, none, .op .quiet (oMv (.val (.bool false))), []⟩])
       (.ret))
      (.skip)))
    (.seq
     (.ops [⟨0, some 55, none, .op .reads (oLoadN 2 (.tmp 2)), []⟩,
       ⟨1, some 56, none, .op .reads (oLoadN 4 (.tmp 3)), []⟩,
       ⟨2, some 57, none, .callF 285 [(.tmp 55), (.tmp 56)], []⟩,
       ⟨3, some 54, none, .op .quiet (oMv (.tmp 57)), []⟩,
       ⟨4, some 58, none, .op .quiet (oExtract 0 (.tmp 54)), []⟩,
       ⟨5, some 59, none, .op .quiet (oExtract 1 (.tmp 54)), []⟩,
       ⟨6, some 5, none, .op .quiet (oMv (.tmp 58)), []⟩,
       ⟨7, some 6, none, .op .quiet (oMv (.tmp 59)), []⟩])
     (.seq
      (.seq
       (.ops [⟨0, some 60, none, .op .quiet (oMv (.tmp 6)), []⟩,
         ⟨1, some 61, none, .op .quiet (oNot (.tmp 60)), []⟩])
       (.cond (.tmp 61)
        (.seq
         (.ops [⟨0, some 4, none, .op .quiet (oMv (.val (.bool false))), []⟩])
         (.ret))
        (.skip)))
      (.seq
       (.seq
        (.ops [⟨0, some 62, none, .op .quiet (oFieldAddr 0 (.tmp 2)), []⟩,
          ⟨1, some 63, none, .op .reads (oLoad (.tmp 62)), []⟩,
          ⟨2, some 64, none, .op .quiet (oMv (.val (.int .i64 0))), []⟩])
        (.block 0
         (.loop
          (.seq
           (.ops [⟨0, some 65, none, .op .quiet (oArith .lss (.tmp 64) (.tmp 63)), []⟩])
           (.seq
            (.cond (.tmp 65)
             (.skip)
             (.exit 0))
            (.seq
             (.block 1
              (.seq
               (.ops [⟨0, some 66, none, .op .quiet (oMv (.tmp 64)), []⟩,
                 ⟨1, some 7, none, .op .quiet (oMv (.tmp 66)), []⟩])
               (.seq
                (.ops [⟨0, some 67, none, .op .reads (oLoadN 2 (.tmp 2)), []⟩,
                  ⟨1, some 68, none, .op .reads (oLoadN 4 (.tmp 3)), []⟩,
                  ⟨2, some 69, none, .op .quiet (oMv (.tmp 7)), []⟩,
                  ⟨3, some 70, none, .callF 286 [(.tmp 67), (.tmp 68), (.tmp 69)], []⟩,
                  ⟨4, some 71, none, .op .quiet (oNot (.tmp 70)), []⟩])
                (.cond (.tmp 71)
                 (.seq
                  (.ops [⟨0, some 4, none, .op .quiet (oMv (.val (.bool false))), []⟩])
                  (.ret))
                 (.skip)))))
             (.ops [⟨0, some 72, none, .op .quiet (oArith .add (.tmp 64) (.val (.int .i64 1))), []⟩,
               ⟨1, some 64, none, .op .quiet (oMv (.tmp 72)), []⟩])))))))
       (.seq
        (.ops [⟨0, some 73, none, .op .quiet (oFieldAddr 0 (.tmp 2)), []⟩,
          ⟨1, some 74, none, .op .reads (oLoad (.tmp 73)), []⟩,
          ⟨2, some 75, none, .callF 165 [(.tmp 74), (.val (.int .i64 1))], []⟩,
          ⟨3, some 76, none, .op .quiet (oBuildSlice 1 0 [(.int .i64 0)] [] []), []⟩,
          ⟨4, some 77, none, .op .quiet (oMv (.tmp 5)), []⟩,
          ⟨5, some 78, none, .op .hard (oAppend 1 8 (.tmp 76) (.tmp 77)), []⟩,
          ⟨6, some 8, none, .op .quiet (oMv (.tmp 75)), []⟩,
          ⟨7, some 9, none, .op .quiet (oMv (.tmp 78)), []⟩])
        (.seq
         (.seq
          (.ops [⟨0, some 79, none, .op .quiet (oFieldAddr 0 (.tmp 2)), []⟩,
            ⟨1, some 80, none, .op .reads (oLoad (.tmp 79)), []⟩,
            ⟨2, some 81, none, .op .quiet (oArith .sub (.tmp 80) (.val (.int .i64 1))), []⟩,
            ⟨3, some 10, none, .op .quiet (oMv (.tmp 81)), []⟩])
          (.block 2
           (.loop
            (.seq
             (.seq
              (.ops [⟨0, some 82, none, .op .quiet (oMv (.tmp 10)), []⟩,
                ⟨1, some 83, none, .op .quiet (oArith .geq (.tmp 82) (.val (.int .i64 0))), []⟩])
              (.cond (.tmp 83)
               (.skip)
               (.exit 2)))
             (.seq
              (.block 3
               (.seq
                (.ops [⟨0, some 86, none, .op .quiet (oFieldAddr 2 (.tmp 3)), []⟩,
                  ⟨1, some 87, none, .op .reads (oLoad (.tmp 86)), []⟩,
                  ⟨2, some 88, none, .op .quiet (oMv (.tmp 10)), []⟩,
                  ⟨3, some 89, none, .op .quiet (oIdxS 1 (.tmp 87) (.tmp 88)), []⟩,
                  ⟨4, some 90, none, .op .reads (oLoad (.tmp 89)), []⟩,
                  ⟨5, some 11, none, .op .quiet (oMv (.tmp 90)), []⟩])
                (.seq
                 (.seq
                  (.drawn [⟨0, some 91, none, .op .quiet (oMv (.tmp 9)), []⟩,
                    ⟨1, some 92, none, .op .quiet (oMv (.tmp 11)), []⟩,
                    ⟨2, some 93, none, .op .quiet (oIdxS 1 (.tmp 91) (.tmp 92)), []⟩,
                    ⟨3, some 94, none, .op .reads (oLoad (.tmp 93)), []⟩,
                    ⟨4, some 95, none, .op .quiet (oMv (.tmp 5)), []⟩,
                    ⟨5, some 96, none, .op .quiet (oMv (.tmp 11)), []⟩,
                    ⟨6, some 97, none, .op .quiet (oIdxS 1 (.tmp 95) (.tmp 96)), []⟩,
                    ⟨7, some 98, none, .op .reads (oLoad (.tmp 97)), []⟩,
                    ⟨8, some 99, none, .op .quiet (oMv (.tmp 8)), []⟩,
                    ⟨9, some 100, none, .op .quiet (oMv (.tmp 11)), []⟩,
                    ⟨10, some 101, none, .op .quiet (oIdxS 1 (.tmp 99) (.tmp 100)), []⟩,
                    ⟨11, some 102, none, .op .reads (oLoad (.tmp 101)), []⟩,
                    ⟨12, some 103, none, .op .quiet (oArith .add (.tmp 98) (.tmp 102)), []⟩,
                    ⟨13, some 104, none, .op .quiet (oArith .sub (.tmp 103) (.val (.int .i64 1))), []⟩,
                    ⟨14, some 105, none, .op .quiet (oArith .neq (.tmp 94) (.tmp 104)), []⟩])
                  (.cond (.tmp 105)
                   (.seq
                    (.ops [⟨0, some 4, none, .op .quiet (oMv (.val (.bool false))), []⟩])
                    (.ret))
                   (.skip)))
                 (.seq
                  (.seq
                   (.ops [⟨0, some 106, none, .op .quiet (oFieldAddr 0 (.tmp 3)), []⟩,
                     ⟨1, some 107, none, .op .reads (oLoad (.tmp 106)), []⟩,
                     ⟨2, some 108, none, .op .quiet (oMv (.tmp 11)), []⟩,
                     ⟨3, some 109, none, .op .quiet (oIdxS 1 (.tmp 107) (.tmp 108)), []⟩,
                     ⟨4, some 110, none, .op .reads (oLoad (.tmp 109)), []⟩,
                     ⟨5, some 111, none, .op .quiet (oArith .lss (.tmp 110) (.val (.int .i64 0))), []⟩])
                   (.cond (.tmp 111)
                    (.exit 3)
                    (.skip)))
                  (.seq
                   (.drawn [⟨0, some 113, none, .op .reads (oLoadN 2 (.tmp 2)), []⟩,
                     ⟨1, some 114, none, .op .quiet (oFieldAddr 0 (.tmp 3)), []⟩,
                     ⟨2, some 115, none, .op .reads (oLoad (.tmp 114)), []⟩,
                     ⟨3, some 116, none, .op .quiet (oMv (.tmp 11)), []⟩,
                     ⟨4, some 117, none, .op .quiet (oIdxS 1 (.tmp 115) (.tmp 116)), []⟩,
                     ⟨5, some 118, none, .op .reads (oLoad (.tmp 117)), []⟩,
                     ⟨6, some 119, none, .callF 287 [(.tmp 113), (.tmp 118)], []⟩,
                     ⟨7, some 112, none, .op .quiet (oMv (.tmp 119)), []⟩,
                     ⟨8, some 120, none, .op .quiet (oExtract 0 (.tmp 112)), []⟩,
                     ⟨9, some 121, none, .op .quiet (oExtract 1 (.tmp 112)), []⟩,
                     ⟨10, some 12, none, .op .quiet (oMv (.tmp 120)), []⟩,
                     ⟨11, some 13, none, .op .quiet (oMv (.tmp 121)), []⟩])
                   (.seq
                    (.seq
                     (.ops [⟨0, some 122, none, .op .quiet (oMv (.tmp 5)), []⟩,
                       ⟨1, some 123, none, .op .quiet (oMv (.tmp 12)), []⟩,
                       ⟨2, some 124, none, .op .quiet (oIdxS 1 (.tmp 122) (.tmp 123)), []⟩,
                       ⟨3, some 125, none, .op .reads (oLoad (.tmp 124)), []⟩,
                       ⟨4, some 126, none, .op .quiet (oMv (.tmp 10)), []⟩,
                       ⟨5, some 127, none, .op .quiet (oArith .geq (.tmp 125) (.tmp 126)), []⟩])
                     (.cond (.tmp 127)
                      (.seq
                       (.ops [⟨0, some 4, none, .op .quiet (oMv (.val (.bool false))), []⟩])
                       (.ret))
                      (.skip)))
                    (.seq
                     (.drawn [⟨0, some 128, none, .op .quiet (oMv (.tmp 8)), []⟩,
                       ⟨1, some 129, none, .op .quiet (oMv (.tmp 12)), []⟩,
                       ⟨2, some 130, none, .op .quiet (oIdxS 1 (.tmp 128) (.tmp 129)), []⟩,
                       ⟨3, some 131, none, .op .reads (oLoad (.tmp 130)), []⟩,
                       ⟨4, some 132, none, .op .quiet (oMv (.tmp 8)), []⟩,
                       ⟨5, some 133, none, .op .quiet (oMv (.tmp 11)), []⟩,
                       ⟨6, some 134, none, .op .quiet (oIdxS 1 (.tmp 132) (.tmp 133)), []⟩,
                       ⟨7, some 135, none, .op .reads (oLoad (.tmp 134)), []⟩,
                       ⟨8, some 136, none, .op .quiet (oArith .add (.tmp 131) (.tmp 135)), []⟩,
                       ⟨9, some 137, none, .op .quiet (oIdxS 1 (.tmp 128) (.tmp 129)), []⟩,
                       ⟨10, none, none, .op .hard (oStore 1 (.tmp 137) (.tmp 136)), []⟩])
                     (.drawn [⟨0, some 138, none, .op .quiet (oMv (.tmp 9)), []⟩,
                       ⟨1, some 139, none, .op .quiet (oMv (.tmp 12)), []⟩,
                       ⟨2, some 140, none, .op .quiet (oMv (.tmp 9)), []⟩,
                       ⟨3, some 141, none, .op .quiet (oMv (.tmp 12)), []⟩,
                       ⟨4, some 142, none, .op .quiet (oIdxS 1 (.tmp 140) (.tmp 141)), []⟩,
                       ⟨5, some 143, none, .op .reads (oLoad (.tmp 142)), []⟩,
                       ⟨6, some 144, none, .op .quiet (oMv (.tmp 9)), []⟩,
                       ⟨7, some 145, none, .op .quiet (oMv (.tmp 11)), []⟩,
                       ⟨8, some 146, none, .op .quiet (oIdxS 1 (.tmp 144) (.tmp 145)), []⟩,
                       ⟨9, some 147, none, .op .reads (oLoad (.tmp 146)), []⟩,
                       ⟨10, some 148, none, .op .quiet (oMax (.tmp 143) [(.tmp 147)]), []⟩,
                       ⟨11, some 149, none, .op .quiet (oIdxS 1 (.tmp 138) (.tmp 139)), []⟩,
                       ⟨12, none, none, .op .hard (oStore 1 (.tmp 149) (.tmp 148)), []⟩]))))))))
              (.ops [⟨0, some 84, none, .op .quiet (oMv (.tmp 10)), []⟩,
                ⟨1, some 85, none, .op .quiet (oArith .sub (.tmp 84) (.val (.int .i64 1))), []⟩,
                ⟨2, some 10, none, .op .quiet (oMv (.tmp 85)), []⟩]))))))
         (.seq
          (.seq
           (.ops [⟨0, some 150, none, .op .quiet (oFieldAddr 3 (.tmp 3)), []⟩,
             ⟨1, some 151, none, .op .reads (oLoad (.tmp 150)), []⟩,
             ⟨2, some 152, none, .op .reads (oLen .slice (.tmp 151)), []⟩,
             ⟨3, some 153, none, .op .quiet (oMv (.val (.int .i64 0))), []⟩])
           (.block 4
            (.loop
             (.seq
              (.ops [⟨0, some 154, none, .op .quiet (oArith .lss (.tmp 153) (.tmp 152)), []⟩])
              (.seq
               (.cond (.tmp 154)
                (.skip)
                (.exit 4))
               (.seq
                (.block 5
                 (.seq
                  (.ops [⟨0, some 155, none, .op .quiet (oMv (.tmp 153)), []⟩,
                    ⟨1, some 156, none, .op .quiet (oIdxS 1 (.tmp 151) (.tmp 153)), []⟩,
                    ⟨2, some 157, none, .op .reads (oLoad (.tmp 156)), []⟩,
                    ⟨3, some 14, none, .op .quiet (oMv (.tmp 155)), []⟩,
                    ⟨4, some 15, none, .op .quiet (oMv (.tmp 157)), []⟩])
                  (.seq
                   (.seq
                    (.ops [⟨0, some 158, none, .op .quiet (oMv (.tmp 15)), []⟩,
                      ⟨1, some 159, none, .op .quiet (oMv (.tmp 14)), []⟩,
                      ⟨2, some 160, none, .op .quiet (oArith .mul (.val (.int .i64 2)) (.tmp 159)), []⟩,
                      ⟨3, some 161, none, .op .quiet (oArith .neq (.tmp 158) (.tmp 160)), []⟩,
                      ⟨4, some 162, none, .op .quiet (oMv (.tmp 161)), []⟩,
                      ⟨5, some 163, some (162, true), .op .quiet (oMv (.tmp 15)), []⟩,
                      ⟨6, some 164, some (162, true), .op .quiet (oMv (.tmp 14)), []⟩,
                      ⟨7, some 165, some (162, true), .op .quiet (oArith .mul (.val (.int .i64 2)) (.tmp 164)), []⟩,
                      ⟨8, some 166, some (162, true), .op .quiet (oArith .add (.tmp 165) (.val (.int .i64 1))), []⟩,
                      ⟨9, some 167, some (162, true), .op .quiet (oArith .neq (.tmp 163) (.tmp 166)), []⟩,
                      ⟨10, some 168, none, .op .quiet (oPick (.tmp 162) (.tmp 167) (.val (.bool false))), []⟩])
                    (.cond (.tmp 168)
                     (.seq
                      (.ops [⟨0, some 4, none, .op .quiet (oMv (.val (.bool false))), []⟩])
                      (.ret))
                     (.skip)))
                   (.seq
                    (.ops [⟨0, some 170, none, .op .reads (oLoadN 2 (.tmp 2)), []⟩,
                      ⟨1, some 171, none, .op .quiet (oMv (.tmp 15)), []⟩,
                      ⟨2, some 172, none, .callF 287 [(.tmp 170), (.tmp 171)], []⟩,
                      ⟨3, some 169, none, .op .quiet (oMv (.tmp 172)), []⟩,
                      ⟨4, some 173, none, .op .quiet (oExtract 0 (.tmp 169)), []⟩,
                      ⟨5, some 174, none, .op .quiet (oExtract 1 (.tmp 169)), []⟩,
                      ⟨6, some 16, none, .op .quiet (oMv (.tmp 173)), []⟩,
                      ⟨7, some 17, none, .op .quiet (oMv (.tmp 174)), []⟩])
                    (.seq
                     (.drawn [⟨0, some 175, none, .op .quiet (oFieldAddr 0 (.tmp 3)), []⟩,
                       ⟨1, some 176, none, .op .reads (oLoad (.tmp 175)), []⟩,
                       ⟨2, some 177, none, .op .quiet (oMv (.tmp 17)), []⟩,
                       ⟨3, some 178, none, .op .quiet (oIdxS 1 (.tmp 176) (.tmp 177)), []⟩,
                       ⟨4, some 179, none, .op .reads (oLoad (.tmp 178)), []⟩,
                       ⟨5, some 180, none, .op .quiet (oMv (.tmp 15)), []⟩,
                       ⟨6, some 181, none, .op .quiet (oArith .neq (.tmp 179) (.tmp 180)), []⟩,
                       ⟨7, some 182, none, .op .quiet (oMv (.tmp 181)), []⟩,
                       ⟨8, some 183, some (182, true), .op .quiet (oMv (.tmp 5)), []⟩,
                       ⟨9, some 184, some (182, true), .op .quiet (oMv (.tmp 17)), []⟩,
                       ⟨10, some 185, some (182, true), .op .quiet (oIdxS 1 (.tmp 183) (.tmp 184)), []⟩,
                       ⟨11, some 186, some (182, true), .op .reads (oLoad (.tmp 185)), []⟩,
                       ⟨12, some 187, some (182, true), .op .quiet (oMv (.tmp 5)), []⟩,
                       ⟨13, some 188, some (182, true), .op .quiet (oMv (.tmp 16)), []⟩,
                       ⟨14, some 189, some (182, true), .op .quiet (oIdxS 1 (.tmp 187) (.tmp 188)), []⟩,
                       ⟨15, some 190, some (182, true), .op .reads (oLoad (.tmp 189)), []⟩,
                       ⟨16, some 191, some (182, true), .op .quiet (oArith .geq (.tmp 186) (.tmp 190)), []⟩,
                       ⟨17, some 192, some (182, true), .op .quiet (oMv (.tmp 191)), []⟩,
                       ⟨18, some 193, some (192, false), .op .quiet (oMv (.tmp 5)), []⟩,
                       ⟨19, some 194, some (192, false), .op .quiet (oMv (.tmp 16)), []⟩,
                       ⟨20, some 195, some (192, false), .op .quiet (oIdxS 1 (.tmp 193) (.tmp 194)), []⟩,
                       ⟨21, some 196, some (192, false), .op .reads (oLoad (.tmp 195)), []⟩,
                       ⟨22, some 197, some (192, false), .op .quiet (oMv (.tmp 9)), []⟩,
                       ⟨23, some 198, some (192, false), .op .quiet (oMv (.tmp 17)), []⟩,
                       ⟨24, some 199, some (192, false), .op .quiet (oIdxS 1 (.tmp 197) (.tmp 198)), []⟩,
                       ⟨25, some 200, some (192, false), .op .reads (oLoad (.tmp 199)), []⟩,
                       ⟨26, some 201, some (192, false), .op .quiet (oArith .gtr (.tmp 196) (.tmp 200)), []⟩,
                       ⟨27, some 202, some (182, true), .op .quiet (oPick (.tmp 192) (.val (.bool true)) (.tmp 201)), []⟩,
                       ⟨28, some 203, none, .op .quiet (oPick (.tmp 182) (.tmp 202) (.val (.bool false))), []⟩])
                     (.cond (.tmp 203)
                      (.seq
                       (.ops [⟨0, some 4, none, .op .quiet (oMv (.val (.bool false))), []⟩])
                       (.ret))
                      (.skip)))))))
                (.ops [⟨0, some 204, none, .op .quiet (oArith .add (.tmp 153) (.val (.int .i64 1))), []⟩,
                  ⟨1, some 153, none, .op .quiet (oMv (.tmp 204)), []⟩])))))))
          (.seq
           (.ops [⟨0, some 4, none, .op .quiet (oMv (.val (.bool true))), []⟩])
           (.ret))))))))))⟩
/-- (*tangram/lr.test).ends -/
noncomputable def a176 : AF := ⟨[.tmp 4, .tmp 5],
 (.seq
   (.ops [⟨0, some 4, none, .op .quiet (oMv (.val (.int .i64 0))), []⟩,
     ⟨1, some 5, none, .op .quiet (oMv (.val (.int .i64 0))), []⟩])
   (.seq
    (.ops [⟨0, some 7, none, .op .quiet (oMv (.tmp 0)), []⟩,
      ⟨1, some 8, none, .op .quiet (oNilCheck (.tmp 7)), []⟩,
      ⟨2, some 9, none, .op .quiet (oFieldAddr 0 (.tmp 8)), []⟩,
      ⟨3, some 10, none, .op .quiet (oFieldAddr 1 (.tmp 9)), []⟩,
      ⟨4, some 11, none, .op .reads (oLoad (.tmp 10)), []⟩,
      ⟨5, some 12, none, .op .quiet (oMv (.tmp 1)), []⟩,
      ⟨6, some 13, none, .op .quiet (oIdxS 2 (.tmp 11) (.tmp 12)), []⟩,
      ⟨7, some 14, none, .op .reads (oLoadN 2 (.tmp 13)), []⟩,
      ⟨8, some 6, none, .op .quiet (oAlloc [(.int .i64 0), (.int .i64 0)]), []⟩,
      ⟨9, none, none, .op .hard (oStore 2 (.tmp 6) (.tmp 14)), []⟩])
    (.seq
     (.seq
      (.ops [⟨0, some 15, none, .op .quiet (oMv (.tmp 0)), []⟩,
        ⟨1, some 16, none, .op .quiet (oNilCheck (.tmp 15)), []⟩,
        ⟨2, some 17, none, .op .quiet (oFieldAddr 2 (.tmp 16)), []⟩,
        ⟨3, some 18, none, .op .quiet (oFieldAddr 3 (.tmp 17)), []⟩,
        ⟨4, some 19, none, .op .reads (oLoad (.tmp 18)), []⟩,
        ⟨5, some 20, none, .op .quiet (oMv (.tmp 1)), []⟩,
        ⟨6, some 21, none, .op .quiet (oIdxS 1 (.tmp 19) (.tmp 20)), []⟩,
        ⟨7, some 22, none, .op .reads (oLoad (.tmp 21)), []⟩,
        ⟨8, some 23, none, .op .quiet (oArith .rem (.tmp 22) (.val (.int .i64 2))), []⟩,
        ⟨9, some 24, none, .op .quiet (oArith .eql (.tmp 23) (.val (.int .i64 0))), []⟩])
      (.cond (.tmp 24)
       (.seq
        (.drawn [⟨0, some 25, none, .op .quiet (oFieldAddr 0 (.tmp 6)), []⟩,
          ⟨1, some 26, none, .op .reads (oLoad (.tmp 25)), []⟩,
          ⟨2, some 27, none, .op .quiet (oFieldAddr 1 (.tmp 6)), []⟩,
          ⟨3, some 28, none, .op .reads (oLoad (.tmp 27)), []⟩,
          ⟨4, some 4, none, .op .quiet (oMv (.tmp 26)), []⟩,
          ⟨5, some 5, none, .op .quiet (oMv (.tmp 28)), []⟩])
        (.ret))
       (.skip)))
     (.seq
      (.drawn [⟨0, some 29, none, .op .quiet (oFieldAddr 1 (.tmp 6)), []⟩,
        ⟨1, some 30, none, .op .reads (oLoad (.tmp 29)), []⟩,
        ⟨2, some 31, none, .op .quiet (oFieldAddr 0 (.tmp 6)), []⟩,
        ⟨3, some 32, none, .op .reads (oLoad (.tmp 31)), []⟩,
        ⟨4, some 4, none, .op .quiet (oMv (.tmp 30)), []⟩,
        ⟨5, some 5, none, .op .quiet (oMv (.tmp 32)), []⟩])
      (.ret)))))⟩
/-- (*tangram/lr.test).parent -/
noncomputable def a177 : AF := ⟨[.tmp 4],
 (.seq
   (.ops [⟨0, some 4, none, .op .quiet (oMv (.val (.int .i64 0))), []⟩])
   (.seq
    (.seq
     (.ops [⟨0, some 5, none, .op .quiet (oMv (.tmp 0)), []⟩,
       ⟨1, some 6, none, .op .quiet (oNilCheck (.tmp 5)), []⟩,
       ⟨2, some 7, none, .op .quiet (oFieldAddr 2 (.tmp 6)), []⟩,
       ⟨3, some 8, none, .op .quiet (oFieldAddr 0 (.tmp 7)), []⟩,
       ⟨4, some 9, none, .op .reads (oLoad (.tmp 8)), []⟩,
       ⟨5, some 10, none, .op .quiet (oMv (.tmp 1)), []⟩,
       ⟨6, some 11, none, .op .quiet (oIdxS 1 (.tmp 9) (.tmp 10)), []⟩,
       ⟨7, some 12, none, .op .reads (oLoad (.tmp 11)), []⟩,
       ⟨8, some 13, none, .op .quiet (oArith .lss (.tmp 12) (.val (.int .i64 0))), []⟩])
     (.cond (.tmp 13)
      (.seq
       (.ops [⟨0, some 4, none, .op .quiet (oMv (.val (.int .i64 (-1)))), []⟩])
       (.ret))
      (.skip)))
    (.seq
     (.ops [⟨0, some 14, none, .op .quiet (oMv (.tmp 0)), []⟩,
       ⟨1, some 15, none, .op .quiet (oNilCheck (.tmp 14)), []⟩,
       ⟨2, some 16, none, .op .quiet (oFieldAddr 2 (.tmp 15)), []⟩,
       ⟨3, some 17, none, .op .quiet (oFieldAddr 0 (.tmp 16)), []⟩,
       ⟨4, some 18, none, .op .reads (oLoad (.tmp 17)), []⟩,
       ⟨5, some 19, none, .op .quiet (oMv (.tmp 1)), []⟩,
       ⟨6, some 20, none, .op .quiet (oIdxS 1 (.tmp 18) (.tmp 19)), []⟩,
       ⟨7, some 21, none, .op .reads (oLoad (.tmp 20)), []⟩,
       ⟨8, some 22, none, .op .quiet (oArith .quo (.tmp 21) (.val (.int .i64 2))), []⟩,
       ⟨9, some 4, none, .op .quiet (oMv (.tmp 22)), []⟩])
     (.ret))))⟩
end Go.Proofs.YtjfppkhaiooloaaGreatDoor.Gs

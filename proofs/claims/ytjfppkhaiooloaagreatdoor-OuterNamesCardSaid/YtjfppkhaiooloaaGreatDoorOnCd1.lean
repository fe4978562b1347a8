/- The code of the functions, for the interpreter. -/
import Derived.Test.YtjfppkhaiooloaaGreatDoorAiB
namespace Go.Proofs.YtjfppkhaiooloaaGreatDoor.On
open Go.AI
set_option maxRecDepth 100000
/-- (*tangram/embed.ring).tour -/
noncomputable def a183 : AF := ⟨[],
 (.seq
   (.ops [⟨0, some 13, none, .op .quiet (oMkMap), []⟩,
     ⟨1, some 14, none, .op .quiet (oMv (.tmp 0)), []⟩,
     ⟨2, some 15, none, .op .quiet (oClos 290 [(.tmp 14)] []), []⟩,
     ⟨3, none, none, .op .hard (oUpdate (.int .i64) (.tmp 13) (.val (.int .i64 1)) (.tmp 15)), []⟩,
     ⟨4, some 16, none, .op .quiet (oMv (.tmp 0)), []⟩,
     ⟨5, some 17, none, .op .quiet (oClos 291 [(.tmp 16)] []), []⟩,
     ⟨6, none, none, .op .hard (oUpdate (.int .i64) (.tmp 13) (.val (.int .i64 (-1))) (.tmp 17)), []⟩,
     ⟨7, some 18, none, .op .quiet (oMv (.tmp 13)), []⟩,
     ⟨8, some 6, none, .op .quiet (oMv (.tmp 18)), []⟩])
   (.seq
    (.ops [⟨0, some 19, none, .op .quiet (oMv (.tmp 0)), []⟩,
      ⟨1, some 20, none, .op .quiet (oNilCheck (.tmp 19)), []⟩,
      ⟨2, some 21, none, .op .quiet (oFieldAddr 0 (.tmp 20)), []⟩,
      ⟨3, some 22, none, .op .quiet (oFieldAddr 0 (.tmp 21)), []⟩,
      ⟨4, some 23, none, .op .reads (oLoad (.tmp 22)), []⟩,
      ⟨5, some 24, none, .op .quiet (oMv (.val (.int .i64 0))), []⟩])
    (.block 0
     (.loop
      (.seq
       (.ops [⟨0, some 25, none, .op .quiet (oArith .lss (.tmp 24) (.tmp 23)), []⟩])
       (.seq
        (.cond (.tmp 25)
         (.skip)
         (.exit 0))
        (.seq
         (.block 1
          (.seq
           (.ops [⟨0, some 26, none, .op .quiet (oMv (.tmp 24)), []⟩,
             ⟨1, some 7, none, .op .quiet (oMv (.tmp 26)), []⟩])
           (.seq
            (.seq
             (.ops [⟨0, some 27, none, .op .quiet (oMv (.tmp 0)), []⟩,
               ⟨1, some 28, none, .op .quiet (oNilCheck (.tmp 27)), []⟩,
               ⟨2, some 29, none, .op .quiet (oFieldAddr 2 (.tmp 28)), []⟩,
               ⟨3, some 30, none, .op .quiet (oFieldAddr 0 (.tmp 29)), []⟩,
               ⟨4, some 31, none, .op .reads (oLoad (.tmp 30)), []⟩,
               ⟨5, some 32, none, .op .quiet (oMv (.tmp 7)), []⟩,
               ⟨6, some 33, none, .op .quiet (oIdxS 1 (.tmp 31) (.tmp 32)), []⟩,
               ⟨7, some 34, none, .op .reads (oLoad (.tmp 33)), []⟩,
               ⟨8, some 35, none, .op .quiet (oArith .geq (.tmp 34) (.val (.int .i64 0))), []⟩])
             (.cond (.tmp 35)
              (.exit 1)
              (.skip)))
            (.seq
             (.ops [⟨0, some 36, none, .op .quiet (oMv (.tmp 7)), []⟩,
               ⟨1, some 37, none, .op .quiet (oBuild [(.int .i64 0), (.int .i64 0)] [(0, 1), (1, 1)] [(.tmp 36), (.val (.int .i64 0))]), []⟩,
               ⟨2, some 38, none, .op .quiet (oBuildSlice 2 1 [(.int .i64 0), (.int .i64 0)] [(0, 2)] [(.tmp 37)]), []⟩,
               ⟨3, some 8, none, .op .quiet (oMv (.tmp 38)), []⟩])
             (.block 2
              (.loop
               (.seq
                (.seq
                 (.ops [⟨0, some 39, none, .op .quiet (oMv (.tmp 8)), []⟩,
                   ⟨1, some 40, none, .op .reads (oLen .slice (.tmp 39)), []⟩,
                   ⟨2, some 41, none, .op .quiet (oArith .gtr (.tmp 40) (.val (.int .i64 0))), []⟩])
                 (.cond (.tmp 41)
                  (.skip)
                  (.exit 2)))
                (.block 3
                 (.seq
                  (.ops [⟨0, some 42, none, .op .quiet (oMv (.tmp 8)), []⟩,
                    ⟨1, some 43, none, .op .quiet (oMv (.tmp 8)), []⟩,
                    ⟨2, some 44, none, .op .reads (oLen .slice (.tmp 43)), []⟩,
                    ⟨3, some 45, none, .op .quiet (oArith .sub (.tmp 44) (.val (.int .i64 1))), []⟩,
                    ⟨4, some 46, none, .op .quiet (oIdxS 2 (.tmp 42) (.tmp 45)), []⟩,
                    ⟨5, some 9, none, .op .quiet (oMv (.tmp 46)), []⟩])
                  (.seq
                   (.seq
                    (.drawn [⟨0, some 47, none, .op .quiet (oMv (.tmp 9)), []⟩,
                      ⟨1, some 48, none, .op .quiet (oNilCheck (.tmp 47)), []⟩,
                      ⟨2, some 49, none, .op .quiet (oFieldAddr 1 (.tmp 48)), []⟩,
                      ⟨3, some 50, none, .op .reads (oLoad (.tmp 49)), []⟩,
                      ⟨4, some 51, none, .op .quiet (oMv (.tmp 1)), []⟩,
                      ⟨5, some 52, none, .op .quiet (oMv (.tmp 9)), []⟩,
                      ⟨6, some 53, none, .op .quiet (oNilCheck (.tmp 52)), []⟩,
                      ⟨7, some 54, none, .op .quiet (oFieldAddr 0 (.tmp 53)), []⟩,
                      ⟨8, some 55, none, .op .reads (oLoad (.tmp 54)), []⟩,
                      ⟨9, some 56, none, .op .quiet (oIdxS 1 (.tmp 51) (.tmp 55)), []⟩,
                      ⟨10, some 57, none, .op .reads (oLoad (.tmp 56)), []⟩,
                      ⟨11, some 58, none, .op .reads (oLen .slice (.tmp 57)), []⟩,
                      ⟨12, some 59, none, .op .quiet (oArith .geq (.tmp 50) (.tmp 58)), []⟩])
                    (.cond (.tmp 59)
                     (.seq
                      (.ops [⟨0, some 60, none, .op .quiet (oMv (.tmp 8)), []⟩,
                        ⟨1, some 61, none, .op .quiet (oMv (.tmp 8)), []⟩,
                        ⟨2, some 62, none, .op .reads (oLen .slice (.tmp 61)), []⟩,
                        ⟨3, some 63, none, .op .quiet (oArith .sub (.tmp 62) (.val (.int .i64 1))), []⟩,
                        ⟨4, some 64, none, .op .quiet (oSlice 2 (.tmp 60) none (some (.tmp 63)) none), []⟩,
                        ⟨5, some 8, none, .op .quiet (oMv (.tmp 64)), []⟩])
                      (.exit 3))
                     (.skip)))
                   (.seq
                    (.drawn [⟨0, some 65, none, .op .quiet (oMv (.tmp 1)), []⟩,
                      ⟨1, some 66, none, .op .quiet (oMv (.tmp 9)), []⟩,
                      ⟨2, some 67, none, .op .quiet (oNilCheck (.tmp 66)), []⟩,
                      ⟨3, some 68, none, .op .quiet (oFieldAddr 0 (.tmp 67)), []⟩,
                      ⟨4, some 69, none, .op .reads (oLoad (.tmp 68)), []⟩,
                      ⟨5, some 70, none, .op .quiet (oIdxS 1 (.tmp 65) (.tmp 69)), []⟩,
                      ⟨6, some 71, none, .op .reads (oLoad (.tmp 70)), []⟩,
                      ⟨7, some 72, none, .op .quiet (oMv (.tmp 9)), []⟩,
                      ⟨8, some 73, none, .op .quiet (oNilCheck (.tmp 72)), []⟩,
                      ⟨9, some 74, none, .op .quiet (oFieldAddr 1 (.tmp 73)), []⟩,
                      ⟨10, some 75, none, .op .reads (oLoad (.tmp 74)), []⟩,
                      ⟨11, some 76, none, .op .quiet (oIdxS 1 (.tmp 71) (.tmp 75)), []⟩,
                      ⟨12, some 77, none, .op .reads (oLoad (.tmp 76)), []⟩,
                      ⟨13, some 10, none, .op .quiet (oMv (.tmp 77)), []⟩])
                    (.seq
                     (.ops [⟨0, some 78, none, .op .quiet (oMv (.tmp 9)), []⟩,
                       ⟨1, some 79, none, .op .quiet (oNilCheck (.tmp 78)), []⟩,
                       ⟨2, some 80, none, .op .quiet (oFieldAddr 1 (.tmp 79)), []⟩,
                       ⟨3, some 81, none, .op .reads (oLoad (.tmp 80)), []⟩,
                       ⟨4, some 82, none, .op .quiet (oArith .add (.tmp 81) (.val (.int .i64 1))), []⟩,
                       ⟨5, some 83, none, .op .quiet (oNilCheck (.tmp 78)), []⟩,
                       ⟨6, some 84, none, .op .quiet (oFieldAddr 1 (.tmp 83)), []⟩,
                       ⟨7, none, none, .op .hard (oStore 1 (.tmp 84) (.tmp 82)), []⟩])
                     (.seq
                      (.ops [⟨0, some 86, none, .op .quiet (oMv (.tmp 0)), []⟩,
                        ⟨1, some 87, none, .op .quiet (oMv (.tmp 10)), []⟩,
                        ⟨2, some 88, none, .callF 288 [(.tmp 86), (.tmp 87)], []⟩,
                        ⟨3, some 85, none, .op .quiet (oMv (.tmp 88)), []⟩,
                        ⟨4, some 89, none, .op .quiet (oExtract 0 (.tmp 85)), []⟩,
                        ⟨5, some 90, none, .op .quiet (oExtract 1 (.tmp 85)), []⟩,
                        ⟨6, some 11, none, .op .quiet (oMv (.tmp 89)), []⟩,
                        ⟨7, some 12, none, .op .quiet (oMv (.tmp 90)), []⟩])
                      (.seq
                       (.seq
                        (.ops [⟨0, some 91, none, .op .quiet (oMv (.tmp 0)), []⟩,
                          ⟨1, some 92, none, .op .quiet (oNilCheck (.tmp 91)), []⟩,
                          ⟨2, some 93, none, .op .quiet (oFieldAddr 2 (.tmp 92)), []⟩,
                          ⟨3, some 94, none, .op .quiet (oFieldAddr 0 (.tmp 93)), []⟩,
                          ⟨4, some 95, none, .op .reads (oLoad (.tmp 94)), []⟩,
                          ⟨5, some 96, none, .op .quiet (oMv (.tmp 12)), []⟩,
                          ⟨6, some 97, none, .op .quiet (oIdxS 1 (.tmp 95) (.tmp 96)), []⟩,
                          ⟨7, some 98, none, .op .reads (oLoad (.tmp 97)), []⟩,
                          ⟨8, some 99, none, .op .quiet (oMv (.tmp 10)), []⟩,
                          ⟨9, some 100, none, .op .quiet (oArith .neq (.tmp 98) (.tmp 99)), []⟩])
                        (.cond (.tmp 100)
                         (.seq
                          (.ops [⟨0, some 101, none, .op .quiet (oMv (.tmp 6)), []⟩,
                            ⟨1, some 102, none, .op .quiet (oMv (.tmp 2)), []⟩,
                            ⟨2, some 103, none, .op .quiet (oMv (.tmp 10)), []⟩,
                            ⟨3, some 104, none, .op .quiet (oArith .quo (.tmp 103) (.val (.int .i64 2))), []⟩,
                            ⟨4, some 105, none, .op .quiet (oIdxS 1 (.tmp 102) (.tmp 104)), []⟩,
                            ⟨5, some 106, none, .op .reads (oLoad (.tmp 105)), []⟩,
                            ⟨6, some 107, none, .op .reads (oLookup (.int .i64) false .nilFunc (.tmp 101) (.tmp 106)), []⟩,
                            ⟨7, some 108, none, .op .quiet (oMv (.tmp 12)), []⟩,
                            ⟨8, some 109, none, .op .quiet (oMv (.tmp 10)), []⟩,
                            ⟨9, some 110, none, .op .quiet (oArith .xor (.tmp 109) (.val (.int .i64 1))), []⟩,
                            ⟨10, some 111, none, .call (.tmp 107) [(.tmp 108), (.tmp 110)], []⟩])
                          (.exit 3))
                         (.skip)))
                       (.seq
                        (.drawn [⟨0, some 112, none, .op .quiet (oMv (.tmp 0)), []⟩,
                          ⟨1, some 113, none, .op .quiet (oNilCheck (.tmp 112)), []⟩,
                          ⟨2, some 114, none, .op .quiet (oFieldAddr 9 (.tmp 113)), []⟩,
                          ⟨3, some 115, none, .op .reads (oLoad (.tmp 114)), []⟩,
                          ⟨4, some 116, none, .op .quiet (oMv (.tmp 9)), []⟩,
                          ⟨5, some 117, none, .op .quiet (oNilCheck (.tmp 116)), []⟩,
                          ⟨6, some 118, none, .op .quiet (oFieldAddr 0 (.tmp 117)), []⟩,
                          ⟨7, some 119, none, .op .reads (oLoad (.tmp 118)), []⟩,
                          ⟨8, some 120, none, .op .quiet (oMv (.tmp 0)), []⟩,
                          ⟨9, some 121, none, .op .quiet (oNilCheck (.tmp 120)), []⟩,
                          ⟨10, some 122, none, .op .quiet (oFieldAddr 10 (.tmp 121)), []⟩,
                          ⟨11, some 123, none, .op .reads (oLoad (.tmp 122)), []⟩,
                          ⟨12, some 124, none, .op .quiet (oMv (.tmp 9)), []⟩,
                          ⟨13, some 125, none, .op .quiet (oNilCheck (.tmp 124)), []⟩,
                          ⟨14, some 126, none, .op .quiet (oFieldAddr 0 (.tmp 125)), []⟩,
                          ⟨15, some 127, none, .op .reads (oLoad (.tmp 126)), []⟩,
                          ⟨16, some 128, none, .op .quiet (oMv (.tmp 10)), []⟩,
                          ⟨17, some 129, none, .op .quiet (oMv (.tmp 10)), []⟩,
                          ⟨18, some 130, none, .op .quiet (oIdxS 1 (.tmp 115) (.tmp 119)), []⟩,
                          ⟨19, none, none, .op .hard (oStore 1 (.tmp 130) (.tmp 128)), []⟩,
                          ⟨20, some 131, none, .op .quiet (oIdxS 1 (.tmp 123) (.tmp 127)), []⟩,
                          ⟨21, none, none, .op .hard (oStore 1 (.tmp 131) (.tmp 129)), []⟩])
                        (.ops [⟨0, some 132, none, .op .quiet (oMv (.tmp 8)), []⟩,
                          ⟨1, some 133, none, .op .quiet (oMv (.tmp 12)), []⟩,
                          ⟨2, some 134, none, .op .quiet (oBuild [(.int .i64 0), (.int .i64 0)] [(0, 1), (1, 1)] [(.tmp 133), (.val (.int .i64 0))]), []⟩,
                          ⟨3, some 135, none, .op .quiet (oBuildSlice 2 1 [(.int .i64 0), (.int .i64 0)] [(0, 2)] [(.tmp 134)]), []⟩,
                          ⟨4, some 136, none, .op .hard (oAppend 2 16 (.tmp 132) (.tmp 135)), []⟩,
                          ⟨5, some 8, none, .op .quiet (oMv (.tmp 136)), []⟩]))))))))))))))))
         (.ops [⟨0, some 137, none, .op .quiet (oArith .add (.tmp 24) (.val (.int .i64 1))), []⟩,
           ⟨1, some 24, none, .op .quiet (oMv (.tmp 137)), []⟩]))))))))⟩
/-- (*tangram/embed.ring).list -/
noncomputable def a184 : AF := ⟨[.tmp 4],
 (.seq
   (.ops [⟨0, some 4, none, .op .quiet (oMv (.val (.slice none 0 0))), []⟩])
   (.seq
    (.ops [⟨0, some 5, none, .op .quiet (oMv (.val (.slice none 0 0))), []⟩])
    (.seq
     (.seq
      (.ops [⟨0, some 7, none, .op .quiet (oMv (.tmp 0)), []⟩,
        ⟨1, some 8, none, .op .quiet (oNilCheck (.tmp 7)), []⟩,
        ⟨2, some 9, none, .op .quiet (oFieldAddr 8 (.tmp 8)), []⟩,
        ⟨3, some 10, none, .op .reads (oLoad (.tmp 9)), []⟩,
        ⟨4, some 11, none, .op .quiet (oMv (.tmp 1)), []⟩,
        ⟨5, some 12, none, .op .quiet (oIdxS 1 (.tmp 10) (.tmp 11)), []⟩,
        ⟨6, some 13, none, .op .reads (oLoad (.tmp 12)), []⟩,
        ⟨7, some 6, none, .op .quiet (oMv (.tmp 13)), []⟩])
      (.block 0
       (.loop
        (.seq
         (.seq
          (.ops [⟨0, some 14, none, .op .quiet (oMv (.tmp 6)), []⟩,
            ⟨1, some 15, none, .op .quiet (oArith .geq (.tmp 14) (.val (.int .i64 0))), []⟩])
          (.cond (.tmp 15)
           (.skip)
           (.exit 0)))
         (.block 1
          (.seq
           (.ops [⟨0, some 16, none, .op .quiet (oMv (.tmp 5)), []⟩,
             ⟨1, some 17, none, .op .quiet (oMv (.tmp 6)), []⟩,
             ⟨2, some 18, none, .op .quiet (oBuildSlice 1 1 [(.int .i64 0)] [(0, 1)] [(.tmp 17)]), []⟩,
             ⟨3, some 19, none, .op .hard (oAppend 1 8 (.tmp 16) (.tmp 18)), []⟩,
             ⟨4, some 5, none, .op .quiet (oMv (.tmp 19)), []⟩])
           (.seq
            (.ops [⟨0, some 20, none, .op .quiet (oMv (.tmp 0)), []⟩,
              ⟨1, some 21, none, .op .quiet (oNilCheck (.tmp 20)), []⟩,
              ⟨2, some 22, none, .op .quiet (oFieldAddr 6 (.tmp 21)), []⟩,
              ⟨3, some 23, none, .op .reads (oLoad (.tmp 22)), []⟩,
              ⟨4, some 24, none, .op .quiet (oMv (.tmp 6)), []⟩,
              ⟨5, some 25, none, .op .quiet (oIdxS 1 (.tmp 23) (.tmp 24)), []⟩,
              ⟨6, some 26, none, .op .reads (oLoad (.tmp 25)), []⟩,
              ⟨7, some 6, none, .op .quiet (oMv (.tmp 26)), []⟩])
            (.seq
             (.ops [⟨0, some 27, none, .op .quiet (oMv (.tmp 6)), []⟩,
               ⟨1, some 28, none, .op .quiet (oMv (.tmp 0)), []⟩,
               ⟨2, some 29, none, .op .quiet (oNilCheck (.tmp 28)), []⟩,
               ⟨3, some 30, none, .op .quiet (oFieldAddr 8 (.tmp 29)), []⟩,
               ⟨4, some 31, none, .op .reads (oLoad (.tmp 30)), []⟩,
               ⟨5, some 32, none, .op .quiet (oMv (.tmp 1)), []⟩,
               ⟨6, some 33, none, .op .quiet (oIdxS 1 (.tmp 31) (.tmp 32)), []⟩,
               ⟨7, some 34, none, .op .reads (oLoad (.tmp 33)), []⟩,
               ⟨8, some 35, none, .op .quiet (oArith .eql (.tmp 27) (.tmp 34)), []⟩])
             (.cond (.tmp 35)
              (.exit 0)
              (.skip))))))))))
     (.seq
      (.ops [⟨0, some 36, none, .op .quiet (oMv (.tmp 5)), []⟩,
        ⟨1, some 4, none, .op .quiet (oMv (.tmp 36)), []⟩])
      (.ret)))))⟩
/-- tangram/low.fault -/
noncomputable def a192 : AF := ⟨[.tmp 4],
 (.seq
   (.ops [⟨0, some 2, none, .op .quiet (oBox (.tmp 0)), []⟩,
     ⟨1, some 3, none, .op .quiet (oBox (.tmp 1)), []⟩,
     ⟨2, some 4, none, .op .quiet (oMv (.val (.int .i64 0))), []⟩])
   (.seq
    (.block 0
     (.seq
      (.ops [⟨0, some 6, none, .op .reads (oLoadN 2 (.tmp 2)), []⟩,
        ⟨1, some 7, none, .callF 92 [(.tmp 6)], []⟩,
        ⟨2, some 8, none, .op .quiet (oNot (.tmp 7)), []⟩,
        ⟨3, some 5, none, .op .quiet (oMv (.tmp 8)), []⟩])
      (.cond (.tmp 5)
       (.seq
        (.ops [⟨0, some 4, none, .op .quiet (oMv (.val (.int .i64 1))), []⟩])
        (.ret))
       (.seq
        (.ops [⟨0, some 10, none, .op .reads (oLoadN 2 (.tmp 2)), []⟩,
          ⟨1, some 11, none, .op .reads (oLoadN 4 (.tmp 3)), []⟩,
          ⟨2, some 12, none, .callF 174 [(.tmp 10), (.tmp 11)], []⟩,
          ⟨3, some 13, none, .op .quiet (oNot (.tmp 12)), []⟩,
          ⟨4, some 9, none, .op .quiet (oMv (.tmp 13)), []⟩])
        (.cond (.tmp 9)
         (.seq
          (.ops [⟨0, some 4, none, .op .quiet (oMv (.val (.int .i64 80))), []⟩])
          (.ret))
         (.skip))))))
    (.seq
     (.ops [⟨0, some 4, none, .op .quiet (oMv (.val (.int .i64 0))), []⟩])
     (.ret))))⟩
/-- tangram/low.ends -/
noncomputable def a193 : AF := ⟨[.tmp 6, .tmp 7],
 (.seq
   (.ops [⟨0, some 3, none, .op .quiet (oBox (.tmp 0)), []⟩,
     ⟨1, some 4, none, .op .quiet (oBox (.tmp 1)), []⟩,
     ⟨2, some 6, none, .op .quiet (oMv (.val (.int .i64 0))), []⟩,
     ⟨3, some 7, none, .op .quiet (oMv (.val (.int .i64 0))), []⟩])
   (.seq
    (.drawn [⟨0, some 10, none, .op .quiet (oFieldAddr 1 (.tmp 3)), []⟩,
      ⟨1, some 11, none, .op .reads (oLoad (.tmp 10)), []⟩,
      ⟨2, some 12, none, .op .quiet (oMv (.tmp 2)), []⟩,
      ⟨3, some 13, none, .op .quiet (oIdxS 2 (.tmp 11) (.tmp 12)), []⟩,
      ⟨4, some 14, none, .op .quiet (oFieldAddr 0 (.tmp 13)), []⟩,
      ⟨5, some 15, none, .op .reads (oLoad (.tmp 14)), []⟩,
      ⟨6, some 16, none, .op .quiet (oFieldAddr 1 (.tmp 3)), []⟩,
      ⟨7, some 17, none, .op .reads (oLoad (.tmp 16)), []⟩,
      ⟨8, some 18, none, .op .quiet (oMv (.tmp 2)), []⟩,
      ⟨9, some 19, none, .op .quiet (oIdxS 2 (.tmp 17) (.tmp 18)), []⟩,
      ⟨10, some 20, none, .op .quiet (oFieldAddr 1 (.tmp 19)), []⟩,
      ⟨11, some 21, none, .op .reads (oLoad (.tmp 20)), []⟩,
      ⟨12, some 8, none, .op .quiet (oMv (.tmp 15)), []⟩,
      ⟨13, some 9, none, .op .quiet (oMv (.tmp 21)), []⟩])
    (.seq
     (.seq
      (.ops [⟨0, some 22, none, .op .quiet (oFieldAddr 3 (.tmp 4)), []⟩,
        ⟨1, some 23, none, .op .reads (oLoad (.tmp 22)), []⟩,
        ⟨2, some 24, none, .op .quiet (oMv (.tmp 2)), []⟩,
        ⟨3, some 25, none, .op .quiet (oIdxS 1 (.tmp 23) (.tmp 24)), []⟩,
        ⟨4, some 26, none, .op .reads (oLoad (.tmp 25)), []⟩,
        ⟨5, some 27, none, .op .quiet (oArith .and (.tmp 26) (.val (.int .i64 1))), []⟩,
        ⟨6, some 28, none, .op .quiet (oArith .eql (.tmp 27) (.val (.int .i64 1))), []⟩])
      (.cond (.tmp 28)
       (.seq
        (.ops [⟨0, some 29, none, .op .quiet (oMv (.tmp 9)), []⟩,
          ⟨1, some 30, none, .op .quiet (oMv (.tmp 8)), []⟩,
          ⟨2, some 6, none, .op .quiet (oMv (.tmp 29)), []⟩,
          ⟨3, some 7, none, .op .quiet (oMv (.tmp 30)), []⟩])
        (.ret))
       (.skip)))
     (.seq
      (.ops [⟨0, some 31, none, .op .quiet (oMv (.tmp 8)), []⟩,
        ⟨1, some 32, none, .op .quiet (oMv (.tmp 9)), []⟩,
        ⟨2, some 6, none, .op .quiet (oMv (.tmp 31)), []⟩,
        ⟨3, some 7, none, .op .quiet (oMv (.tmp 32)), []⟩])
      (.ret)))))⟩
/-- slices.Backward[[]int,int] -/
noncomputable def a194 : AF := ⟨[.tmp 2],
 (.seq
   (.ops [⟨0, some 1, none, .op .quiet (oBox (.tmp 0)), []⟩,
     ⟨1, some 2, none, .op .quiet (oMv (.val .nilFunc)), []⟩])
   (.seq
    (.ops [⟨0, some 3, none, .op .quiet (oClos 294 [] [(.tmp 1)]), []⟩,
      ⟨1, some 2, none, .op .quiet (oMv (.tmp 3)), []⟩])
    (.ret)))⟩
/-- tangram/low.lowest -/
noncomputable def a195 : AF := ⟨[.tmp 0, .tmp 1],
 (.seq
   (.ops [⟨0, some 0, none, .op .quiet (oMv (.val .nilFunc)), []⟩,
     ⟨1, some 1, none, .op .quiet (oMv (.val .nilFunc)), []⟩])
   (.seq
    (.ops [⟨0, some 2, none, .op .quiet (oAlloc [(.int .i64 0)]), []⟩,
      ⟨1, some 3, none, .op .quiet (oAlloc [(.int .i64 0)]), []⟩,
      ⟨2, none, none, .op .hard (oStore 1 (.tmp 2) (.val (.int .i64 9223372036854775807))), []⟩,
      ⟨3, none, none, .op .hard (oStore 1 (.tmp 3) (.val (.int .i64 9223372036854775807))), []⟩])
    (.seq
     (.ops [⟨0, some 4, none, .op .quiet (oClos 295 [] [(.tmp 2), (.tmp 3)]), []⟩,
       ⟨1, some 0, none, .op .quiet (oMv (.tmp 4)), []⟩])
     (.seq
      (.ops [⟨0, some 5, none, .op .quiet (oMv (.tmp 0)), []⟩,
        ⟨1, some 6, none, .op .quiet (oClos 296 [] [(.tmp 2), (.tmp 3)]), []⟩,
        ⟨2, some 0, none, .op .quiet (oMv (.tmp 5)), []⟩,
        ⟨3, some 1, none, .op .quiet (oMv (.tmp 6)), []⟩])
      (.ret)))))⟩
/-- slices.Sorted[int] -/
noncomputable def a196 : AF := ⟨[.tmp 2],
 (.seq
   (.ops [⟨0, some 2, none, .op .quiet (oMv (.val (.slice none 0 0))), []⟩])
   (.seq
    (.ops [⟨0, some 4, none, .op .quiet (oMv (.tmp 0)), []⟩,
      ⟨1, some 5, none, .callF 297 [(.tmp 4)], []⟩,
      ⟨2, some 3, none, .op .quiet (oMv (.tmp 5)), []⟩])
    (.seq
     (.ops [⟨0, some 6, none, .op .quiet (oMv (.tmp 3)), []⟩,
       ⟨1, some 7, none, .callF 298 [(.tmp 6)], []⟩])
     (.seq
      (.ops [⟨0, some 8, none, .op .quiet (oMv (.tmp 3)), []⟩,
        ⟨1, some 2, none, .op .quiet (oMv (.tmp 8)), []⟩])
      (.ret)))))⟩
/-- slices.Values[[]int,int] -/
noncomputable def a197 : AF := ⟨[.tmp 2],
 (.seq
   (.ops [⟨0, some 1, none, .op .quiet (oBox (.tmp 0)), []⟩,
     ⟨1, some 2, none, .op .quiet (oMv (.val .nilFunc)), []⟩])
   (.seq
    (.ops [⟨0, some 3, none, .op .quiet (oClos 299 [] [(.tmp 1)]), []⟩,
      ⟨1, some 2, none, .op .quiet (oMv (.tmp 3)), []⟩])
    (.ret)))⟩
/-- tangram/bucket.Sort[int] -/
noncomputable def a198 : AF := ⟨[.tmp 6, .tmp 7],
 (.seq
   (.ops [⟨0, some 6, none, .op .quiet (oMv (.val (.slice none 0 0))), []⟩,
     ⟨1, some 7, none, .op .quiet (oMv (.val (.int .i64 0))), []⟩])
   (.seq
    (.seq
     (.ops [⟨0, some 15, none, .op .quiet (oMv (.tmp 2)), []⟩,
       ⟨1, some 16, none, .op .quiet (oArith .lss (.tmp 15) (.val (.int .i64 0))), []⟩,
       ⟨2, some 17, none, .op .quiet (oMv (.tmp 16)), []⟩,
       ⟨3, some 18, some (17, false), .op .quiet (oMv (.tmp 2)), []⟩,
       ⟨4, some 19, some (17, false), .op .quiet (oArith .gtr (.tmp 18) (.val (.int .i64 4194304))), []⟩,
       ⟨5, some 20, none, .op .quiet (oPick (.tmp 17) (.val (.bool true)) (.tmp 19)), []⟩,
       ⟨6, some 21, none, .op .quiet (oMv (.tmp 20)), []⟩,
       ⟨7, some 22, some (21, false), .op .quiet (oMv (.tmp 1)), []⟩,
       ⟨8, some 23, some (21, false), .op .quiet (oEq false .funcNil (.tmp 22) (.val .nilFunc)), []⟩,
       ⟨9, some 24, none, .op .quiet (oPick (.tmp 21) (.val (.bool true)) (.tmp 23)), []⟩])
     (.cond (.tmp 24)
      (.seq
       (.ops [⟨0, some 6, none, .op .quiet (oMv (.val (.slice none 0 0))), []⟩,
         ⟨1, some 7, none, .op .quiet (oMv (.val (.int .i64 2))), []⟩])
       (.ret))
      (.skip)))
    (.seq
     (.ops [⟨0, some 25, none, .op .quiet (oMv (.tmp 0)), []⟩,
       ⟨1, some 26, none, .op .reads (oLen .slice (.tmp 25)), []⟩,
       ⟨2, some 27, none, .op .quiet (oMkSlice 1 8 [(.int .i64 0)] (.val (.int .i64 0)) (.tmp 26)), []⟩,
       ⟨3, some 8, none, .op .quiet (oMv (.tmp 27)), []⟩])
     (.seq
      (.seq
       (.ops [⟨0, some 28, none, .op .quiet (oMv (.tmp 0)), []⟩,
         ⟨1, some 29, none, .op .reads (oLen .slice (.tmp 28)), []⟩,
         ⟨2, some 30, none, .op .quiet (oMv (.val (.int .i64 0))), []⟩])
       (.block 0
        (.loop
         (.seq
          (.ops [⟨0, some 31, none, .op .quiet (oArith .lss (.tmp 30) (.tmp 29)), []⟩])
          (.seq
           (.cond (.tmp 31)
            (.skip)
            (.exit 0))
           (.seq
            (.block 1
             (.seq
              (.ops [⟨0, some 32, none, .op .quiet (oIdxS 1 (.tmp 28) (.tmp 30)), []⟩,
                ⟨1, some 33, none, .op .reads (oLoad (.tmp 32)), []⟩,
                ⟨2, some 10, none, .op .quiet (oMv (.tmp 33)), []⟩])
              (.seq
               (.ops [⟨0, some 34, none, .op .quiet (oMv (.tmp 1)), []⟩,
                 ⟨1, some 35, none, .op .quiet (oMv (.tmp 10)), []⟩,
                 ⟨2, some 36, none, .call (.tmp 34) [(.tmp 35)], []⟩,
                 ⟨3, some 11, none, .op .quiet (oMv (.tmp 36)), []⟩])
               (.seq
                (.seq
                 (.ops [⟨0, some 37, none, .op .quiet (oMv (.tmp 11)), []⟩,
                   ⟨1, some 38, none, .op .quiet (oArith .lss (.tmp 37) (.val (.int .i64 0))), []⟩,
                   ⟨2, some 39, none, .op .quiet (oMv (.tmp 38)), []⟩,
                   ⟨3, some 40, some (39, false), .op .quiet (oMv (.tmp 11)), []⟩,
                   ⟨4, some 41, some (39, false), .op .quiet (oMv (.tmp 2)), []⟩,
                   ⟨5, some 42, some (39, false), .op .quiet (oArith .gtr (.tmp 40) (.tmp 41)), []⟩,
                   ⟨6, some 43, none, .op .quiet (oPick (.tmp 39) (.val (.bool true)) (.tmp 42)), []⟩])
                 (.cond (.tmp 43)
                  (.seq
                   (.ops [⟨0, some 6, none, .op .quiet (oMv (.val (.slice none 0 0))), []⟩,
                     ⟨1, some 7, none, .op .quiet (oMv (.val (.int .i64 60))), []⟩])
                   (.ret))
                  (.skip)))
                (.ops [⟨0, some 44, none, .op .quiet (oMv (.tmp 8)), []⟩,
                  ⟨1, some 45, none, .op .quiet (oMv (.tmp 11)), []⟩,
                  ⟨2, some 46, none, .op .quiet (oBuildSlice 1 1 [(.int .i64 0)] [(0, 1)] [(.tmp 45)]), []⟩,
                  ⟨3, some 47, none, .op .hard (oAppend 1 8 (.tmp 44) (.tmp 46)), []⟩,
                  ⟨4, some 8, none, .op .quiet (oMv (.tmp 47)), []⟩])))))
            (.ops [⟨0, some 48, none, .op .quiet (oArith .add (.tmp 30) (.val (.int .i64 1))), []⟩,
              ⟨1, some 30, none, .op .quiet (oMv (.tmp 48)), []⟩])))))))
      (.seq
       (.ops [⟨0, some 49, none, .op .quiet (oMv (.tmp 0)), []⟩,
         ⟨1, some 50, none, .op .reads (oLen .slice (.tmp 49)), []⟩,
         ⟨2, some 51, none, .op .quiet (oMkSlice 1 8 [(.int .i64 0)] (.tmp 50) (.tmp 50)), []⟩,
         ⟨3, some 12, none, .op .quiet (oMv (.tmp 51)), []⟩])
       (.seq
        (.seq
         (.ops [⟨0, some 52, none, .op .quiet (oMv (.tmp 8)), []⟩,
           ⟨1, some 53, none, .callF 300 [(.tmp 52)], []⟩,
           ⟨2, some 54, none, .op .reads (oLen .slice (.tmp 53)), []⟩,
           ⟨3, some 55, none, .op .quiet (oMv (.val (.int .i64 0))), []⟩])
         (.block 2
          (.loop
           (.seq
            (.ops [⟨0, some 56, none, .op .quiet (oArith .lss (.tmp 55) (.tmp 54)), []⟩])
            (.seq
             (.cond (.tmp 56)
              (.skip)
              (.exit 2))
             (.seq
              (.block 3
               (.seq
                (.ops [⟨0, some 57, none, .op .quiet (oMv (.tmp 55)), []⟩,
                  ⟨1, some 58, none, .op .quiet (oIdxS 1 (.tmp 53) (.tmp 55)), []⟩,
                  ⟨2, some 59, none, .op .reads (oLoad (.tmp 58)), []⟩,
                  ⟨3, some 13, none, .op .quiet (oMv (.tmp 57)), []⟩,
                  ⟨4, some 14, none, .op .quiet (oMv (.tmp 59)), []⟩])
                (.ops [⟨0, some 60, none, .op .quiet (oMv (.tmp 12)), []⟩,
                  ⟨1, some 61, none, .op .quiet (oMv (.tmp 14)), []⟩,
                  ⟨2, some 62, none, .op .quiet (oMv (.tmp 0)), []⟩,
                  ⟨3, some 63, none, .op .quiet (oMv (.tmp 13)), []⟩,
                  ⟨4, some 64, none, .op .quiet (oIdxS 1 (.tmp 62) (.tmp 63)), []⟩,
                  ⟨5, some 65, none, .op .reads (oLoad (.tmp 64)), []⟩,
                  ⟨6, some 66, none, .op .quiet (oIdxS 1 (.tmp 60) (.tmp 61)), []⟩,
                  ⟨7, none, none, .op .hard (oStore 1 (.tmp 66) (.tmp 65)), []⟩])))
              (.ops [⟨0, some 67, none, .op .quiet (oArith .add (.tmp 55) (.val (.int .i64 1))), []⟩,
                ⟨1, some 55, none, .op .quiet (oMv (.tmp 67)), []⟩])))))))
        (.seq
         (.ops [⟨0, some 68, none, .op .quiet (oMv (.tmp 12)), []⟩,
           ⟨1, some 6, none, .op .quiet (oMv (.tmp 68)), []⟩,
           ⟨2, some 7, none, .op .quiet (oMv (.val (.int .i64 0))), []⟩])
         (.ret))))))))⟩
/-- tangram/low.Of$1 -/
noncomputable def a199 : AF := ⟨[.tmp 3],
 (.seq
   (.ops [⟨0, some 3, none, .op .quiet (oMv (.val (.int .i64 0))), []⟩])
   (.seq
    (.ops [⟨0, some 4, none, .op .quiet (oFieldAddr 2 (.tmp 1)), []⟩,
      ⟨1, some 5, none, .op .reads (oLoad (.tmp 4)), []⟩,
      ⟨2, some 6, none, .op .quiet (oMv (.tmp 0)), []⟩,
      ⟨3, some 7, none, .op .quiet (oArith .quo (.tmp 6) (.val (.int .i64 2))), []⟩,
      ⟨4, some 8, none, .op .quiet (oIdxS 1 (.tmp 5) (.tmp 7)), []⟩,
      ⟨5, some 9, none, .op .reads (oLoad (.tmp 8)), []⟩,
      ⟨6, some 3, none, .op .quiet (oMv (.tmp 9)), []⟩])
    (.ret)))⟩
/-- (*tangram/lr.test).join -/
noncomputable def a200 : AF := ⟨[.tmp 6],
 (.seq
   (.ops [⟨0, some 6, none, .op .quiet (oMv (.val (.bool false))), []⟩])
   (.seq
    (.ops [⟨0, some 9, none, .op .quiet (oMv (.tmp 0)), []⟩,
      ⟨1, some 10, none, .op .quiet (oNilCheck (.tmp 9)), []⟩,
      ⟨2, some 11, none, .op .quiet (oFieldAddr 6 (.tmp 10)), []⟩,
      ⟨3, some 12, none, .op .quiet (oFieldAddr 3 (.tmp 11)), []⟩,
      ⟨4, some 13, none, .op .reads (oLoad (.tmp 12)), []⟩,
      ⟨5, some 14, none, .op .quiet (oMv (.tmp 1)), []⟩,
      ⟨6, some 15, none, .op .quiet (oIdxS 1 (.tmp 13) (.tmp 14)), []⟩,
      ⟨7, some 16, none, .op .reads (oLoad (.tmp 15)), []⟩,
      ⟨8, some 17, none, .op .quiet (oMv (.tmp 2)), []⟩,
      ⟨9, some 18, none, .op .quiet (oIdxS 1 (.tmp 16) (.tmp 17)), []⟩,
      ⟨10, some 19, none, .op .reads (oLoad (.tmp 18)), []⟩,
      ⟨11, some 20, none, .op .quiet (oArith .quo (.tmp 19) (.val (.int .i64 2))), []⟩,
      ⟨12, some 7, none, .op .quiet (oMv (.tmp 20)), []⟩])
    (.seq
     (.seq
      (.drawn [⟨0, some 21, none, .op .quiet (oMv (.tmp 0)), []⟩,
        ⟨1, some 22, none, .op .quiet (oNilCheck (.tmp 21)), []⟩,
        ⟨2, some 23, none, .op .quiet (oFieldAddr 6 (.tmp 22)), []⟩,
        ⟨3, some 24, none, .op .quiet (oFieldAddr 0 (.tmp 23)), []⟩,
        ⟨4, some 25, none, .op .reads (oLoad (.tmp 24)), []⟩,
        ⟨5, some 26, none, .op .quiet (oMv (.tmp 7)), []⟩,
        ⟨6, some 27, none, .op .quiet (oIdxS 1 (.tmp 25) (.tmp 26)), []⟩,
        ⟨7, some 28, none, .op .reads (oLoad (.tmp 27)), []⟩,
        ⟨8, some 29, none, .op .quiet (oMv (.tmp 0)), []⟩,
        ⟨9, some 30, none, .op .quiet (oNilCheck (.tmp 29)), []⟩,
        ⟨10, some 31, none, .op .quiet (oFieldAddr 2 (.tmp 30)), []⟩,
        ⟨11, some 32, none, .op .quiet (oFieldAddr 1 (.tmp 31)), []⟩,
        ⟨12, some 33, none, .op .reads (oLoad (.tmp 32)), []⟩,
        ⟨13, some 34, none, .op .quiet (oMv (.tmp 1)), []⟩,
        ⟨14, some 35, none, .op .quiet (oIdxS 1 (.tmp 33) (.tmp 34)), []⟩,
        ⟨15, some 36, none, .op .reads (oLoad (.tmp 35)), []⟩,
        ⟨16, some 37, none, .op .quiet (oArith .geq (.tmp 28) (.tmp 36)), []⟩])
      (.cond (.tmp 37)
       (.seq
        (.ops [⟨0, some 6, none, .op .quiet (oMv (.val (.bool true))), []⟩])
        (.ret))
       (.skip)))
     (.seq
      (.ops [⟨0, some 38, none, .op .quiet (oMv (.tmp 0)), []⟩,
        ⟨1, some 39, none, .op .quiet (oMv (.tmp 1)), []⟩,
        ⟨2, some 40, none, .callF 177 [(.tmp 38), (.tmp 39)], []⟩,
        ⟨3, some 8, none, .op .quiet (oMv (.tmp 40)), []⟩])
      (.seq
       (.seq
        (.ops [⟨0, some 41, none, .op .quiet (oMv (.tmp 2)), []⟩,
          ⟨1, some 42, none, .op .quiet (oArith .eql (.tmp 41) (.val (.int .i64 0))), []⟩])
        (.cond (.tmp 42)
         (.seq
          (.drawn [⟨0, some 43, none, .op .quiet (oMv (.tmp 0)), []⟩,
            ⟨1, some 44, none, .op .quiet (oNilCheck (.tmp 43)), []⟩,
            ⟨2, some 45, none, .op .quiet (oFieldAddr 14 (.tmp 44)), []⟩,
            ⟨3, some 46, none, .op .reads (oLoad (.tmp 45)), []⟩,
            ⟨4, some 47, none, .op .quiet (oMv (.tmp 8)), []⟩,
            ⟨5, some 48, none, .op .quiet (oMv (.tmp 0)), []⟩,
            ⟨6, some 49, none, .op .quiet (oNilCheck (.tmp 48)), []⟩,
            ⟨7, some 50, none, .op .quiet (oFieldAddr 14 (.tmp 49)), []⟩,
            ⟨8, some 51, none, .op .reads (oLoad (.tmp 50)), []⟩,
            ⟨9, some 52, none, .op .quiet (oMv (.tmp 7)), []⟩,
            ⟨10, some 53, none, .op .quiet (oIdxS 1 (.tmp 51) (.tmp 52)), []⟩,
            ⟨11, some 54, none, .op .reads (oLoad (.tmp 53)), []⟩,
            ⟨12, some 55, none, .op .quiet (oIdxS 1 (.tmp 46) (.tmp 47)), []⟩,
            ⟨13, none, none, .op .hard (oStore 1 (.tmp 55) (.tmp 54)), []⟩])
          (.seq
           (.ops [⟨0, some 6, none, .op .quiet (oMv (.val (.bool true))), []⟩])
           (.ret)))
         (.skip)))
       (.seq
        (.ops [⟨0, some 56, none, .op .quiet (oMv (.tmp 0)), []⟩,
          ⟨1, some 57, none, .op .quiet (oMv (.tmp 7)), []⟩,
          ⟨2, some 58, none, .op .quiet (oMv (.tmp 8)), []⟩,
          ⟨3, some 59, none, .callF 301 [(.tmp 56), (.tmp 57), (.tmp 58)], []⟩,
          ⟨4, some 6, none, .op .quiet (oMv (.tmp 59)), []⟩])
        (.ret)))))))⟩
/-- (*tangram/lr.test).leave -/
noncomputable def a201 : AF := ⟨[],
 (.seq
   (.block 0
    (.loop
     (.seq
      (.seq
       (.drawn [⟨0, some 9, none, .op .quiet (oMv (.tmp 0)), []⟩,
         ⟨1, some 10, none, .op .quiet (oNilCheck (.tmp 9)), []⟩,
         ⟨2, some 11, none, .op .quiet (oFieldAddr 10 (.tmp 10)), []⟩,
         ⟨3, some 12, none, .op .reads (oLoad (.tmp 11)), []⟩,
         ⟨4, some 13, none, .op .reads (oLen .slice (.tmp 12)), []⟩,
         ⟨5, some 14, none, .op .quiet (oArith .gtr (.tmp 13) (.val (.int .i64 0))), []⟩,
         ⟨6, some 15, none, .op .quiet (oMv (.tmp 14)), []⟩,
         ⟨7, some 16, some (15, true), .op .quiet (oMv (.tmp 0)), []⟩,
         ⟨8, some 17, some (15, true), .op .quiet (oMv (.tmp 0)), []⟩,
         ⟨9, some 18, some (15, true), .op .quiet (oNilCheck (.tmp 17)), []⟩,
         ⟨10, some 19, some (15, true), .op .quiet (oFieldAddr 10 (.tmp 18)), []⟩,
         ⟨11, some 20, some (15, true), .op .reads (oLoad (.tmp 19)), []⟩,
         ⟨12, some 21, some (15, true), .op .quiet (oMv (.tmp 0)), []⟩,
         ⟨13, some 22, some (15, true), .op .quiet (oNilCheck (.tmp 21)), []⟩,
         ⟨14, some 23, some (15, true), .op .quiet (oFieldAddr 10 (.tmp 22)), []⟩,
         ⟨15, some 24, some (15, true), .op .reads (oLoad (.tmp 23)), []⟩,
         ⟨16, some 25, some (15, true), .op .reads (oLen .slice (.tmp 24)), []⟩,
         ⟨17, some 26, some (15, true), .op .quiet (oArith .sub (.tmp 25) (.val (.int .i64 1))), []⟩,
         ⟨18, some 27, some (15, true), .op .quiet (oIdxS 4 (.tmp 20) (.tmp 26)), []⟩,
         ⟨19, some 28, some (15, true), .op .reads (oLoadN 4 (.tmp 27)), []⟩,
         ⟨21, some 30, some (15, true), .op .quiet (oMv (.tmp 0)), []⟩,
         ⟨22, some 31, some (15, true), .op .quiet (oNilCheck (.tmp 30)), []⟩,
         ⟨23, some 32, some (15, true), .op .quiet (oFieldAddr 2 (.tmp 31)), []⟩,
         ⟨24, some 33, some (15, true), .op .quiet (oFieldAddr 1 (.tmp 32)), []⟩,
         ⟨25, some 34, some (15, true), .op .reads (oLoad (.tmp 33)), []⟩,
         ⟨26, some 35, some (15, true), .op .quiet (oMv (.tmp 2)), []⟩,
         ⟨27, some 36, some (15, true), .op .quiet (oIdxS 1 (.tmp 34) (.tmp 35)), []⟩,
         ⟨28, some 37, some (15, true), .op .reads (oLoad (.tmp 36)), []⟩,
         ⟨20, some 29, some (15, true), .callF 302 [(.tmp 16), (.tmp 28)], [25, 28]⟩,
         ⟨29, some 38, some (15, true), .op .quiet (oArith .eql (.tmp 29) (.tmp 37)), []⟩,
         ⟨30, some 39, none, .op .quiet (oPick (.tmp 15) (.tmp 38) (.val (.bool false))), []⟩])
       (.cond (.tmp 39)
        (.skip)
        (.exit 0)))
      (.block 1
       (.seq
        (.ops [⟨0, some 40, none, .op .quiet (oMv (.tmp 0)), []⟩,
          ⟨1, some 41, none, .callF 303 [(.tmp 40)], []⟩,
          ⟨2, some 6, none, .op .quiet (oAlloc [(.int .i64 0), (.int .i64 0), (.int .i64 0), (.int .i64 0)]), []⟩,
          ⟨3, none, none, .op .hard (oStore 4 (.tmp 6) (.tmp 41)), []⟩])
        (.seq
         (.ops [⟨0, some 42, none, .op .quiet (oFieldAddr 0 (.tmp 6)), []⟩,
           ⟨1, some 43, none, .op .reads (oLoadN 2 (.tmp 42)), []⟩,
           ⟨2, some 44, none, .op .reads (oLoadN 2 (.val (.pointer (some ⟨0, 0, none⟩)))), []⟩,
           ⟨3, some 45, none, .op .quiet (oEq true (.ints 2) (.tmp 43) (.tmp 44)), []⟩])
         (.cond (.tmp 45)
          (.drawn [⟨0, some 46, none, .op .quiet (oMv (.tmp 0)), []⟩,
            ⟨1, some 47, none, .op .quiet (oNilCheck (.tmp 46)), []⟩,
            ⟨2, some 48, none, .op .quiet (oFieldAddr 12 (.tmp 47)), []⟩,
            ⟨3, some 49, none, .op .reads (oLoad (.tmp 48)), []⟩,
            ⟨4, some 50, none, .op .quiet (oFieldAddr 0 (.tmp 6)), []⟩,
            ⟨5, some 51, none, .op .quiet (oFieldAddr 0 (.tmp 50)), []⟩,
            ⟨6, some 52, none, .op .reads (oLoad (.tmp 51)), []⟩,
            ⟨7, some 53, none, .op .quiet (oIdxS 1 (.tmp 49) (.tmp 52)), []⟩,
            ⟨8, none, none, .op .hard (oStore 1 (.tmp 53) (.val (.int .i64 (-1)))), []⟩])
          (.skip))))))))
   (.seq
    (.seq
     (.ops [⟨0, some 54, none, .op .quiet (oMv (.tmp 0)), []⟩,
       ⟨1, some 55, none, .op .quiet (oNilCheck (.tmp 54)), []⟩,
       ⟨2, some 56, none, .op .quiet (oFieldAddr 10 (.tmp 55)), []⟩,
       ⟨3, some 57, none, .op .reads (oLoad (.tmp 56)), []⟩,
       ⟨4, some 58, none, .op .reads (oLen .slice (.tmp 57)), []⟩,
       ⟨5, some 59, none, .op .quiet (oArith .gtr (.tmp 58) (.val (.int .i64 0))), []⟩])
     (.cond (.tmp 59)
      (.seq
       (.ops [⟨0, some 60, none, .op .quiet (oMv (.tmp 0)), []⟩,
         ⟨1, some 61, none, .callF 303 [(.tmp 60)], []⟩,
         ⟨2, some 7, none, .op .quiet (oAlloc [(.int .i64 0), (.int .i64 0), (.int .i64 0), (.int .i64 0)]), []⟩,
         ⟨3, none, none, .op .hard (oStore 4 (.tmp 7) (.tmp 61)), []⟩])
       (.seq
        (.ops [⟨0, some 62, none, .op .quiet (oMv (.tmp 0)), []⟩,
          ⟨1, some 63, none, .op .quiet (oFieldAddr 0 (.tmp 7)), []⟩,
          ⟨2, some 64, none, .op .reads (oLoadN 2 (.tmp 63)), []⟩,
          ⟨3, some 65, none, .op .quiet (oFieldAddr 2 (.tmp 7)), []⟩,
          ⟨4, some 66, none, .op .reads (oLoadN 2 (.tmp 65)), []⟩,
          ⟨5, some 67, none, .op .quiet (oMv (.tmp 2)), []⟩,
          ⟨6, some 68, none, .callF 304 [(.tmp 62), (.tmp 64), (.tmp 66), (.tmp 67)], []⟩,
          ⟨7, some 69, none, .op .quiet (oFieldAddr 0 (.tmp 7)), []⟩,
          ⟨8, none, none, .op .hard (oStore 2 (.tmp 69) (.tmp 68)), []⟩])
        (.seq
         (.ops [⟨0, some 70, none, .op .quiet (oMv (.tmp 0)), []⟩,
           ⟨1, some 71, none, .op .quiet (oFieldAddr 2 (.tmp 7)), []⟩,
           ⟨2, some 72, none, .op .reads (oLoadN 2 (.tmp 71)), []⟩,
           ⟨3, some 73, none, .op .quiet (oFieldAddr 0 (.tmp 7)), []⟩,
           ⟨4, some 74, none, .op .reads (oLoadN 2 (.tmp 73)), []⟩,
           ⟨5, some 75, none, .op .quiet (oMv (.tmp 2)), []⟩,
           ⟨6, some 76, none, .callF 304 [(.tmp 70), (.tmp 72), (.tmp 74), (.tmp 75)], []⟩,
           ⟨7, some 77, none, .op .quiet (oFieldAddr 2 (.tmp 7)), []⟩,
           ⟨8, none, none, .op .hard (oStore 2 (.tmp 77) (.tmp 76)), []⟩])
         (.drawn [⟨0, some 78, none, .op .quiet (oMv (.tmp 0)), []⟩,
           ⟨1, some 79, none, .op .quiet (oMv (.tmp 0)), []⟩,
           ⟨2, some 80, none, .op .quiet (oNilCheck (.tmp 79)), []⟩,
           ⟨3, some 81, none, .op .quiet (oFieldAddr 10 (.tmp 80)), []⟩,
           ⟨4, some 82, none, .op .reads (oLoad (.tmp 81)), []⟩,
           ⟨5, some 83, none, .op .reads (oLoadN 4 (.tmp 7)), []⟩,
           ⟨6, some 84, none, .op .quiet (oBuildSlice 4 1 [(.int .i64 0), (.int .i64 0), (.int .i64 0), (.int .i64 0)] [(0, 4)] [(.tmp 83)]), []⟩,
           ⟨7, some 85, none, .op .hard (oAppend 4 32 (.tmp 82) (.tmp 84)), []⟩,
           ⟨8, some 86, none, .op .quiet (oNilCheck (.tmp 78)), []⟩,
           ⟨9, some 87, none, .op .quiet (oFieldAddr 10 (.tmp 86)), []⟩,
           ⟨10, none, none, .op .hard (oStore 1 (.tmp 87) (.tmp 85)), []⟩]))))
      (.skip)))
    (.seq
     (.seq
      (.drawn [⟨0, some 88, none, .op .quiet (oMv (.tmp 0)), []⟩,
        ⟨1, some 89, none, .op .quiet (oNilCheck (.tmp 88)), []⟩,
        ⟨2, some 90, none, .op .quiet (oFieldAddr 6 (.tmp 89)), []⟩,
        ⟨3, some 91, none, .op .quiet (oFieldAddr 0 (.tmp 90)), []⟩,
        ⟨4, some 92, none, .op .reads (oLoad (.tmp 91)), []⟩,
        ⟨5, some 93, none, .op .quiet (oMv (.tmp 1)), []⟩,
        ⟨6, some 94, none, .op .quiet (oIdxS 1 (.tmp 92) (.tmp 93)), []⟩,
        ⟨7, some 95, none, .op .reads (oLoad (.tmp 94)), []⟩,
        ⟨8, some 96, none, .op .quiet (oMv (.tmp 0)), []⟩,
        ⟨9, some 97, none, .op .quiet (oNilCheck (.tmp 96)), []⟩,
        ⟨10, some 98, none, .op .quiet (oFieldAddr 2 (.tmp 97)), []⟩,
        ⟨11, some 99, none, .op .quiet (oFieldAddr 1 (.tmp 98)), []⟩,
        ⟨12, some 100, none, .op .reads (oLoad (.tmp 99)), []⟩,
        ⟨13, some 101, none, .op .quiet (oMv (.tmp 2)), []⟩,
        ⟨14, some 102, none, .op .quiet (oIdxS 1 (.tmp 100) (.tmp 101)), []⟩,
        ⟨15, some 103, none, .op .reads (oLoad (.tmp 102)), []⟩,
        ⟨16, some 104, none, .op .quiet (oArith .geq (.tmp 95) (.tmp 103)), []⟩])
      (.cond (.tmp 104)
       (.ret)
       (.skip)))
     (.seq
      (.drawn [⟨0, some 105, none, .op .quiet (oMv (.tmp 0)), []⟩,
        ⟨1, some 106, none, .op .quiet (oNilCheck (.tmp 105)), []⟩,
        ⟨2, some 107, none, .op .quiet (oFieldAddr 10 (.tmp 106)), []⟩,
        ⟨3, some 108, none, .op .reads (oLoad (.tmp 107)), []⟩,
        ⟨4, some 109, none, .op .quiet (oMv (.tmp 0)), []⟩,
        ⟨5, some 110, none, .op .quiet (oNilCheck (.tmp 109)), []⟩,
        ⟨6, some 111, none, .op .quiet (oFieldAddr 10 (.tmp 110)), []⟩,
        ⟨7, some 112, none, .op .reads (oLoad (.tmp 111)), []⟩,
        ⟨8, some 113, none, .op .reads (oLen .slice (.tmp 112)), []⟩,
        ⟨9, some 114, none, .op .quiet (oArith .sub (.tmp 113) (.val (.int .i64 1))), []⟩,
        ⟨10, some 115, none, .op .quiet (oIdxS 4 (.tmp 108) (.tmp 114)), []⟩,
        ⟨11, some 116, none, .op .reads (oLoadN 4 (.tmp 115)), []⟩,
        ⟨12, some 8, none, .op .quiet (oAlloc [(.int .i64 0), (.int .i64 0), (.int .i64 0), (.int .i64 0)]), []⟩,
        ⟨13, none, none, .op .hard (oStore 4 (.tmp 8) (.tmp 116)), []⟩])
      (.seq
       (.drawn [⟨0, some 117, none, .op .quiet (oFieldAddr 0 (.tmp 8)), []⟩,
         ⟨1, some 118, none, .op .reads (oLoadN 2 (.tmp 117)), []⟩,
         ⟨2, some 119, none, .op .reads (oLoadN 2 (.val (.pointer (some ⟨0, 0, none⟩)))), []⟩,
         ⟨3, some 120, none, .op .quiet (oEq true (.ints 2) (.tmp 118) (.tmp 119)), []⟩,
         ⟨4, some 121, none, .op .quiet (oMv (.tmp 120)), []⟩,
         ⟨5, some 122, some (121, true), .op .quiet (oFieldAddr 2 (.tmp 8)), []⟩,
         ⟨6, some 123, some (121, true), .op .reads (oLoadN 2 (.tmp 122)), []⟩,
         ⟨7, some 124, some (121, true), .op .reads (oLoadN 2 (.val (.pointer (some ⟨0, 0, none⟩)))), []⟩,
         ⟨8, some 125, some (121, true), .op .quiet (oEq false (.ints 2) (.tmp 123) (.tmp 124)), []⟩,
         ⟨9, some 126, some (121, true), .op .quiet (oMv (.tmp 125)), []⟩,
         ⟨10, some 127, some (126, false), .op .quiet (oMv (.tmp 0)), []⟩,
         ⟨11, some 128, some (126, false), .op .quiet (oNilCheck (.tmp 127)), []⟩,
         ⟨12, some 129, some (126, false), .op .quiet (oFieldAddr 6 (.tmp 128)), []⟩,
         ⟨13, some 130, some (126, false), .op .quiet (oFieldAddr 0 (.tmp 129)), []⟩,
         ⟨14, some 131, some (126, false), .op .reads (oLoad (.tmp 130)), []⟩,
         ⟨15, some 132, some (126, false), .op .quiet (oFieldAddr 0 (.tmp 8)), []⟩,
         ⟨16, some 133, some (126, false), .op .quiet (oFieldAddr 1 (.tmp 132)), []⟩,
         ⟨17, some 134, some (126, false), .op .reads (oLoad (.tmp 133)), []⟩,
         ⟨18, some 135, some (126, false), .op .quiet (oIdxS 1 (.tmp 131) (.tmp 134)), []⟩,
         ⟨19, some 136, some (126, false), .op .reads (oLoad (.tmp 135)), []⟩,
         ⟨20, some 137, some (126, false), .op .quiet (oMv (.tmp 0)), []⟩,
         ⟨21, some 138, some (126, false), .op .quiet (oNilCheck (.tmp 137)), []⟩,
         ⟨22, some 139, some (126, false), .op .quiet (oFieldAddr 6 (.tmp 138)), []⟩,
         ⟨23, some 140, some (126, false), .op .quiet (oFieldAddr 0 (.tmp 139)), []⟩,
         ⟨24, some 141, some (126, false), .op .reads (oLoad (.tmp 140)), []⟩,
         ⟨25, some 142, some (126, false), .op .quiet (oFieldAddr 2 (.tmp 8)), []⟩,
         ⟨26, some 143, some (126, false), .op .quiet (oFieldAddr 1 (.tmp 142)), []⟩,
         ⟨27, some 144, some (126, false), .op .reads (oLoad (.tmp 143)), []⟩,
         ⟨28, some 145, some (126, false), .op .quiet (oIdxS 1 (.tmp 141) (.tmp 144)), []⟩,
         ⟨29, some 146, some (126, false), .op .reads (oLoad (.tmp 145)), []⟩,
         ⟨30, some 147, some (126, false), .op .quiet (oArith .gtr (.tmp 136) (.tmp 146)), []⟩,
         ⟨31, some 148, some (121, true), .op .quiet (oPick (.tmp 126) (.val (.bool true)) (.tmp 147)), []⟩,
         ⟨32, some 149, none, .op .quiet (oPick (.tmp 121) (.tmp 148) (.val (.bool false))), []⟩])
       (.cond (.tmp 149)
        (.drawn [⟨0, some 150, none, .op .quiet (oMv (.tmp 0)), []⟩,
          ⟨1, some 151, none, .op .quiet (oNilCheck (.tmp 150)), []⟩,
          ⟨2, some 152, none, .op .quiet (oFieldAddr 11 (.tmp 151)), []⟩,
          ⟨3, some 153, none, .op .reads (oLoad (.tmp 152)), []⟩,
          ⟨4, some 154, none, .op .quiet (oMv (.tmp 1)), []⟩,
          ⟨5, some 155, none, .op .quiet (oFieldAddr 0 (.tmp 8)), []⟩,
          ⟨6, some 156, none, .op .quiet (oFieldAddr 1 (.tmp 155)), []⟩,
          ⟨7, some 157, none, .op .reads (oLoad (.tmp 156)), []⟩,
          ⟨8, some 158, none, .op .quiet (oIdxS 1 (.tmp 153) (.tmp 154)), []⟩,
          ⟨9, none, none, .op .hard (oStore 1 (.tmp 158) (.tmp 157)), []⟩])
        (.drawn [⟨0, some 159, none, .op .quiet (oMv (.tmp 0)), []⟩,
          ⟨1, some 160, none, .op .quiet (oNilCheck (.tmp 159)), []⟩,
          ⟨2, some 161, none, .op .quiet (oFieldAddr 11 (.tmp 160)), []⟩,
          ⟨3, some 162, none, .op .reads (oLoad (.tmp 161)), []⟩,
          ⟨4, some 163, none, .op .quiet (oMv (.tmp 1)), []⟩,
          ⟨5, some 164, none, .op .quiet (oFieldAddr 2 (.tmp 8)), []⟩,
          ⟨6, some 165, none, .op .quiet (oFieldAddr 1 (.tmp 164)), []⟩,
          ⟨7, some 166, none, .op .reads (oLoad (.tmp 165)), []⟩,
          ⟨8, some 167, none, .op .quiet (oIdxS 1 (.tmp 162) (.tmp 163)), []⟩,
          ⟨9, none, none, .op .hard (oStore 1 (.tmp 167) (.tmp 166)), []⟩])))))))⟩
/-- tangram/rot.caught$1 -/
noncomputable def a202 : AF := ⟨[],
 (.seq
   (.ops [⟨0, some 5, none, .recover, []⟩,
     ⟨1, some 2, none, .op .quiet (oMv (.tmp 5)), []⟩])
   (.seq
    (.ops [⟨0, some 6, none, .op .quiet (oMv (.tmp 2)), []⟩,
      ⟨1, some 7, none, .op .quiet (oEq true .ifaceNil (.tmp 6) (.val .nilIface)), []⟩])
    (.cond (.tmp 7)
     (.seq
      (.ops [⟨0, some 9, none, .op .quiet (oMv (.tmp 2)), []⟩,
        ⟨1, some 10, none, .op .quiet (oAssert 250 true (.agg #[(.int .i64 0), (.int .i64 0)]) (.tmp 9)), []⟩,
        ⟨2, some 8, none, .op .quiet (oMv (.tmp 10)), []⟩,
        ⟨3, some 11, none, .op .quiet (oExtract 0 (.tmp 8)), []⟩,
        ⟨4, some 12, none, .op .quiet (oExtract 1 (.tmp 8)), []⟩,
        ⟨5, some 3, none, .op .quiet (oAlloc [(.int .i64 0), (.int .i64 0)]), []⟩,
        ⟨6, none, none, .op .hard (oStore 2 (.tmp 3) (.tmp 11)), []⟩,
        ⟨7, some 4, none, .op .quiet (oMv (.tmp 12)), []⟩])
      (.seq
       (.seq
        (.ops [⟨0, some 13, none, .op .quiet (oMv (.tmp 4)), []⟩,
          ⟨1, some 14, none, .op .quiet (oNot (.tmp 13)), []⟩])
        (.cond (.tmp 14)
         (.ops [⟨0, some 15, none, .op .quiet (oMv (.tmp 2)), []⟩,
           ⟨1, none, none, .panic (.tmp 15), []⟩])
         (.skip)))
       (.drawn [⟨0, some 16, none, .op .quiet (oFieldAddr 0 (.tmp 3)), []⟩,
         ⟨1, some 17, none, .op .reads (oLoad (.tmp 16)), []⟩,
         ⟨2, some 18, none, .op .quiet (oFieldAddr 1 (.tmp 3)), []⟩,
         ⟨3, some 19, none, .op .reads (oLoad (.tmp 18)), []⟩,
         ⟨4, none, none, .op .hard (oStore 1 (.tmp 0) (.tmp 17)), [3]⟩,
         ⟨5, none, none, .op .hard (oStore 1 (.tmp 1) (.tmp 19)), []⟩])))
     (.skip))))⟩
/-- tangram/rot.must -/
noncomputable def a203 : AF := ⟨[],
 (.seq
   (.ops [⟨0, some 6, none, .op .quiet (oMv (.tmp 0)), []⟩,
     ⟨1, some 7, none, .op .quiet (oNot (.tmp 6)), []⟩])
   (.cond (.tmp 7)
    (.ops [⟨0, some 8, none, .op .quiet (oMv (.tmp 1)), []⟩,
      ⟨1, some 9, none, .op .quiet (oMv (.tmp 2)), []⟩,
      ⟨2, some 10, none, .op .quiet (oBuild [(.int .i64 0), (.int .i64 0)] [(0, 1), (1, 1)] [(.tmp 8), (.tmp 9)]), []⟩,
      ⟨3, some 11, none, .op .quiet (oIface 250 (.tmp 10)), []⟩,
      ⟨4, none, none, .panic (.tmp 11), []⟩])
    (.skip)))⟩
/-- tangram/simple.Degrees -/
noncomputable def a204 : AF := ⟨[.tmp 2, .tmp 3],
 (.seq
   (.ops [⟨0, some 1, none, .op .quiet (oBox (.tmp 0)), []⟩,
     ⟨1, some 2, none, .op .quiet (oMv (.val (.slice none 0 0))), []⟩,
     ⟨2, some 3, none, .op .quiet (oMv (.val (.int .i64 0))), []⟩])
   (.seq
    (.seq
     (.ops [⟨0, some 7, none, .op .reads (oLoadN 2 (.tmp 1)), []⟩,
       ⟨1, some 8, none, .callF 92 [(.tmp 7)], []⟩,
       ⟨2, some 9, none, .op .quiet (oNot (.tmp 8)), []⟩])
     (.cond (.tmp 9)
      (.seq
       (.ops [⟨0, some 2, none, .op .quiet (oMv (.val (.slice none 0 0))), []⟩,
         ⟨1, some 3, none, .op .quiet (oMv (.val (.int .i64 1))), []⟩])
       (.ret))
      (.skip)))
    (.seq
     (.ops [⟨0, some 10, none, .op .quiet (oFieldAddr 0 (.tmp 1)), []⟩,
       ⟨1, some 11, none, .op .reads (oLoad (.tmp 10)), []⟩,
       ⟨2, some 12, none, .op .quiet (oMkSlice 1 8 [(.int .i64 0)] (.tmp 11) (.tmp 11)), []⟩,
       ⟨3, some 4, none, .op .quiet (oMv (.tmp 12)), []⟩])
     (.seq
      (.seq
       (.ops [⟨0, some 13, none, .op .quiet (oFieldAddr 1 (.tmp 1)), []⟩,
         ⟨1, some 14, none, .op .reads (oLoad (.tmp 13)), []⟩,
         ⟨2, some 15, none, .op .reads (oLen .slice (.tmp 14)), []⟩,
         ⟨3, some 16, none, .op .quiet (oMv (.val (.int .i64 0))), []⟩])
       (.block 0
        (.loop
         (.seq
          (.ops [⟨0, some 17, none, .op .quiet (oArith .lss (.tmp 16) (.tmp 15)), []⟩])
          (.seq
           (.cond (.tmp 17)
            (.skip)
            (.exit 0))
           (.seq
            (.block 1
             (.seq
              (.ops [⟨0, some 18, none, .op .quiet (oIdxS 2 (.tmp 14) (.tmp 16)), []⟩,
                ⟨1, some 19, none, .op .reads (oLoadN 2 (.tmp 18)), []⟩,
                ⟨2, some 6, none, .op .quiet (oAlloc [(.int .i64 0), (.int .i64 0)]), []⟩,
                ⟨3, none, none, .op .hard (oStore 2 (.tmp 6) (.tmp 19)), []⟩])
              (.seq
               (.ops [⟨0, some 20, none, .op .quiet (oMv (.tmp 4)), []⟩,
                 ⟨1, some 21, none, .op .quiet (oFieldAddr 0 (.tmp 6)), []⟩,
                 ⟨2, some 22, none, .op .reads (oLoad (.tmp 21)), []⟩,
                 ⟨3, some 23, none, .op .quiet (oIdxS 1 (.tmp 20) (.tmp 22)), []⟩,
                 ⟨4, some 24, none, .op .reads (oLoad (.tmp 23)), []⟩,
                 ⟨5, some 25, none, .op .quiet (oArith .add (.tmp 24) (.val (.int .i64 1))), []⟩,
                 ⟨6, some 26, none, .op .quiet (oIdxS 1 (.tmp 20) (.tmp 22)), []⟩,
                 ⟨7, none, none, .op .hard (oStore 1 (.tmp 26) (.tmp 25)), []⟩])
               (.ops [⟨0, some 27, none, .op .quiet (oMv (.tmp 4)), []⟩,
                 ⟨1, some 28, none, .op .quiet (oFieldAddr 1 (.tmp 6)), []⟩,
                 ⟨2, some 29, none, .op .reads (oLoad (.tmp 28)), []⟩,
                 ⟨3, some 30, none, .op .quiet (oIdxS 1 (.tmp 27) (.tmp 29)), []⟩,
                 ⟨4, some 31, none, .op .reads (oLoad (.tmp 30)), []⟩,
                 ⟨5, some 32, none, .op .quiet (oArith .add (.tmp 31) (.val (.int .i64 1))), []⟩,
                 ⟨6, some 33, none, .op .quiet (oIdxS 1 (.tmp 27) (.tmp 29)), []⟩,
                 ⟨7, none, none, .op .hard (oStore 1 (.tmp 33) (.tmp 32)), []⟩]))))
            (.ops [⟨0, some 34, none, .op .quiet (oArith .add (.tmp 16) (.val (.int .i64 1))), []⟩,
              ⟨1, some 16, none, .op .quiet (oMv (.tmp 34)), []⟩])))))))
      (.seq
       (.ops [⟨0, some 35, none, .op .quiet (oMv (.tmp 4)), []⟩,
         ⟨1, some 2, none, .op .quiet (oMv (.tmp 35)), []⟩,
         ⟨2, some 3, none, .op .quiet (oMv (.val (.int .i64 0))), []⟩])
       (.ret))))))⟩
/-- tangram/rot.begins -/
noncomputable def a205 : AF := ⟨[.tmp 2],
 (.seq
   (.ops [⟨0, some 1, none, .op .quiet (oBox (.tmp 0)), []⟩,
     ⟨1, some 2, none, .op .quiet (oMv (.val (.slice none 0 0))), []⟩])
   (.seq
    (.ops [⟨0, some 6, none, .op .quiet (oFieldAddr 1 (.tmp 1)), []⟩,
      ⟨1, some 7, none, .op .reads (oLoad (.tmp 6)), []⟩,
      ⟨2, some 8, none, .op .reads (oLen .slice (.tmp 7)), []⟩,
      ⟨3, some 9, none, .op .quiet (oArith .mul (.val (.int .i64 2)) (.tmp 8)), []⟩,
      ⟨4, some 10, none, .op .quiet (oMkSlice 1 8 [(.int .i64 0)] (.val (.int .i64 0)) (.tmp 9)), []⟩,
      ⟨5, some 3, none, .op .quiet (oMv (.tmp 10)), []⟩])
    (.seq
     (.seq
      (.ops [⟨0, some 11, none, .op .quiet (oFieldAddr 1 (.tmp 1)), []⟩,
        ⟨1, some 12, none, .op .reads (oLoad (.tmp 11)), []⟩,
        ⟨2, some 13, none, .op .reads (oLen .slice (.tmp 12)), []⟩,
        ⟨3, some 14, none, .op .quiet (oMv (.val (.int .i64 0))), []⟩])
      (.block 0
       (.loop
        (.seq
         (.ops [⟨0, some 15, none, .op .quiet (oArith .lss (.tmp 14) (.tmp 13)), []⟩])
         (.seq
          (.cond (.tmp 15)
           (.skip)
           (.exit 0))
          (.seq
           (.block 1
            (.seq
             (.ops [⟨0, some 16, none, .op .quiet (oIdxS 2 (.tmp 12) (.tmp 14)), []⟩,
               ⟨1, some 17, none, .op .reads (oLoadN 2 (.tmp 16)), []⟩,
               ⟨2, some 5, none, .op .quiet (oAlloc [(.int .i64 0), (.int .i64 0)]), []⟩,
               ⟨3, none, none, .op .hard (oStore 2 (.tmp 5) (.tmp 17)), []⟩])
             (.ops [⟨0, some 18, none, .op .quiet (oMv (.tmp 3)), []⟩,
               ⟨1, some 19, none, .op .quiet (oFieldAddr 0 (.tmp 5)), []⟩,
               ⟨2, some 20, none, .op .reads (oLoad (.tmp 19)), []⟩,
               ⟨3, some 21, none, .op .quiet (oFieldAddr 1 (.tmp 5)), []⟩,
               ⟨4, some 22, none, .op .reads (oLoad (.tmp 21)), []⟩,
               ⟨5, some 23, none, .op .quiet (oBuildSlice 1 2 [(.int .i64 0)] [(0, 1), (1, 1)] [(.tmp 20), (.tmp 22)]), []⟩,
               ⟨6, some 24, none, .op .hard (oAppend 1 8 (.tmp 18) (.tmp 23)), []⟩,
               ⟨7, some 3, none, .op .quiet (oMv (.tmp 24)), []⟩])))
           (.ops [⟨0, some 25, none, .op .quiet (oArith .add (.tmp 14) (.val (.int .i64 1))), []⟩,
             ⟨1, some 14, none, .op .quiet (oMv (.tmp 25)), []⟩])))))))
     (.seq
      (.ops [⟨0, some 26, none, .op .quiet (oMv (.tmp 3)), []⟩,
        ⟨1, some 2, none, .op .quiet (oMv (.tmp 26)), []⟩])
      (.ret)))))⟩
/-- slices.SortFunc[[]tangram/api.Edge,tangram/api.Edge] -/
noncomputable def a253 : AF := ⟨[],
 (.seq
   (.ops [⟨0, some 5, none, .op .quiet (oMv (.tmp 0)), []⟩,
     ⟨1, some 6, none, .op .reads (oLen .slice (.tmp 5)), []⟩,
     ⟨2, some 4, none, .op .quiet (oMv (.tmp 6)), []⟩])
   (.ops [⟨0, some 7, none, .op .quiet (oMv (.tmp 0)), []⟩,
     ⟨1, some 8, none, .op .quiet (oMv (.tmp 4)), []⟩,
     ⟨2, some 9, none, .op .quiet (oMv (.tmp 4)), []⟩,
     ⟨3, some 10, none, .op .quiet (oConv .u64 (.tmp 9)), []⟩,
     ⟨4, some 11, none, .callF 307 [(.tmp 10)], []⟩,
     ⟨5, some 12, none, .op .quiet (oMv (.tmp 1)), []⟩,
     ⟨6, some 13, none, .callF 306 [(.tmp 7), (.val (.int .i64 0)), (.tmp 8), (.tmp 11), (.tmp 12)], []⟩]))⟩
/-- tangram/rot.Next -/
noncomputable def a255 : AF := ⟨[.tmp 4, .tmp 5],
 (.seq
   (.ops [⟨0, some 2, none, .op .quiet (oBox (.tmp 0)), []⟩,
     ⟨1, some 4, none, .op .quiet (oMv (.val (.slice none 0 0))), []⟩,
     ⟨2, some 5, none, .op .quiet (oMv (.val (.int .i64 0))), []⟩])
   (.seq
    (.seq
     (.ops [⟨0, some 14, none, .op .reads (oLoadN 2 (.tmp 2)), []⟩,
       ⟨1, some 15, none, .op .quiet (oMv (.tmp 1)), []⟩,
       ⟨2, some 16, none, .callF 53 [(.tmp 14), (.tmp 15)], []⟩,
       ⟨3, some 13, none, .op .quiet (oMv (.tmp 16)), []⟩,
       ⟨4, some 17, none, .op .quiet (oExtract 0 (.tmp 13)), []⟩,
       ⟨5, some 18, none, .op .quiet (oExtract 1 (.tmp 13)), []⟩,
       ⟨6, some 6, none, .op .quiet (oMv (.tmp 17)), []⟩,
       ⟨7, some 7, none, .op .quiet (oMv (.tmp 18)), []⟩])
     (.seq
      (.ops [⟨0, some 19, none, .op .quiet (oMv (.tmp 7)), []⟩,
        ⟨1, some 20, none, .op .quiet (oArith .neq (.tmp 19) (.val (.int .i64 0))), []⟩])
      (.cond (.tmp 20)
       (.seq
        (.ops [⟨0, some 21, none, .op .quiet (oMv (.tmp 7)), []⟩,
          ⟨1, some 4, none, .op .quiet (oMv (.val (.slice none 0 0))), []⟩,
          ⟨2, some 5, none, .op .quiet (oMv (.tmp 21)), []⟩])
        (.ret))
       (.skip))))
    (.seq
     (.ops [⟨0, some 22, none, .op .quiet (oFieldAddr 1 (.tmp 2)), []⟩,
       ⟨1, some 23, none, .op .reads (oLoad (.tmp 22)), []⟩,
       ⟨2, some 24, none, .op .reads (oLen .slice (.tmp 23)), []⟩,
       ⟨3, some 25, none, .op .quiet (oArith .mul (.val (.int .i64 2)) (.tmp 24)), []⟩,
       ⟨4, some 26, none, .op .quiet (oMkSlice 1 8 [(.int .i64 0)] (.tmp 25) (.tmp 25)), []⟩,
       ⟨5, some 8, none, .op .quiet (oMv (.tmp 26)), []⟩])
     (.seq
      (.seq
       (.ops [⟨0, some 27, none, .op .quiet (oMv (.tmp 1)), []⟩,
         ⟨1, some 28, none, .op .reads (oLen .slice (.tmp 27)), []⟩,
         ⟨2, some 29, none, .op .quiet (oMv (.val (.int .i64 0))), []⟩])
       (.block 0
        (.loop
         (.seq
          (.ops [⟨0, some 30, none, .op .quiet (oArith .lss (.tmp 29) (.tmp 28)), []⟩])
          (.seq
           (.cond (.tmp 30)
            (.skip)
            (.exit 0))
           (.seq
            (.block 1
             (.seq
              (.ops [⟨0, some 31, none, .op .quiet (oIdxS 1 (.tmp 27) (.tmp 29)), []⟩,
                ⟨1, some 32, none, .op .reads (oLoad (.tmp 31)), []⟩,
                ⟨2, some 10, none, .op .quiet (oMv (.tmp 32)), []⟩])
              (.seq
               (.ops [⟨0, some 33, none, .op .quiet (oMv (.tmp 10)), []⟩,
                 ⟨1, some 34, none, .op .reads (oLen .slice (.tmp 33)), []⟩,
                 ⟨2, some 35, none, .op .quiet (oMv (.val (.int .i64 0))), []⟩])
               (.block 2
                (.loop
                 (.seq
                  (.ops [⟨0, some 36, none, .op .quiet (oArith .lss (.tmp 35) (.tmp 34)), []⟩])
                  (.seq
                   (.cond (.tmp 36)
                    (.skip)
                    (.exit 2))
                   (.seq
                    (.block 3
                     (.seq
                      (.ops [⟨0, some 37, none, .op .quiet (oMv (.tmp 35)), []⟩,
                        ⟨1, some 38, none, .op .quiet (oIdxS 1 (.tmp 33) (.tmp 35)), []⟩,
                        ⟨2, some 39, none, .op .reads (oLoad (.tmp 38)), []⟩,
                        ⟨3, some 11, none, .op .quiet (oMv (.tmp 37)), []⟩,
                        ⟨4, some 12, none, .op .quiet (oMv (.tmp 39)), []⟩])
                      (.ops [⟨0, some 40, none, .op .quiet (oMv (.tmp 8)), []⟩,
                        ⟨1, some 41, none, .op .quiet (oMv (.tmp 12)), []⟩,
                        ⟨2, some 42, none, .op .quiet (oMv (.tmp 10)), []⟩,
                        ⟨3, some 43, none, .op .quiet (oMv (.tmp 11)), []⟩,
                        ⟨4, some 44, none, .op .quiet (oArith .add (.tmp 43) (.val (.int .i64 1))), []⟩,
                        ⟨5, some 45, none, .op .quiet (oMv (.tmp 10)), []⟩,
                        ⟨6, some 46, none, .op .reads (oLen .slice (.tmp 45)), []⟩,
                        ⟨7, some 47, none, .op .quiet (oArith .rem (.tmp 44) (.tmp 46)), []⟩,
                        ⟨8, some 48, none, .op .quiet (oIdxS 1 (.tmp 42) (.tmp 47)), []⟩,
                        ⟨9, some 49, none, .op .reads (oLoad (.tmp 48)), []⟩,
                        ⟨10, some 50, none, .op .quiet (oIdxS 1 (.tmp 40) (.tmp 41)), []⟩,
                        ⟨11, none, none, .op .hard (oStore 1 (.tmp 50) (.tmp 49)), []⟩])))
                    (.ops [⟨0, some 51, none, .op .quiet (oArith .add (.tmp 35) (.val (.int .i64 1))), []⟩,
                      ⟨1, some 35, none, .op .quiet (oMv (.tmp 51)), []⟩])))))))))
            (.ops [⟨0, some 52, none, .op .quiet (oArith .add (.tmp 29) (.val (.int .i64 1))), []⟩,
              ⟨1, some 29, none, .op .quiet (oMv (.tmp 52)), []⟩])))))))
      (.seq
       (.ops [⟨0, some 53, none, .op .quiet (oMv (.tmp 8)), []⟩,
         ⟨1, some 4, none, .op .quiet (oMv (.tmp 53)), []⟩,
         ⟨2, some 5, none, .op .quiet (oMv (.val (.int .i64 0))), []⟩])
       (.ret))))))⟩
/-- tangram/comps.New -/
noncomputable def a256 : AF := ⟨[.tmp 2, .tmp 3],
 (.seq
   (.ops [⟨0, some 2, none, .op .quiet (oMv (.val (.pointer none))), []⟩,
     ⟨1, some 3, none, .op .quiet (oMv (.val (.int .i64 0))), []⟩])
   (.seq
    (.seq
     (.ops [⟨0, some 6, none, .op .quiet (oMv (.tmp 0)), []⟩,
       ⟨1, some 7, none, .op .quiet (oArith .lss (.tmp 6) (.val (.int .i64 0))), []⟩,
       ⟨2, some 8, none, .op .quiet (oMv (.tmp 7)), []⟩,
       ⟨3, some 9, some (8, false), .op .quiet (oMv (.tmp 0)), []⟩,
       ⟨4, some 10, some (8, false), .op .quiet (oArith .gtr (.tmp 9) (.val (.int .i64 1048576))), []⟩,
       ⟨5, some 11, none, .op .quiet (oPick (.tmp 8) (.val (.bool true)) (.tmp 10)), []⟩])
     (.cond (.tmp 11)
      (.seq
       (.ops [⟨0, some 2, none, .op .quiet (oMv (.val (.pointer none))), []⟩,
         ⟨1, some 3, none, .op .quiet (oMv (.val (.int .i64 2))), []⟩])
       (.ret))
      (.skip)))
    (.seq
     (.drawn [⟨0, some 12, none, .op .quiet (oMv (.tmp 0)), []⟩,
       ⟨1, some 13, none, .op .quiet (oMkSlice 1 8 [(.int .i64 0)] (.tmp 12) (.tmp 12)), []⟩,
       ⟨2, some 14, none, .op .quiet (oMv (.tmp 0)), []⟩,
       ⟨3, some 15, none, .op .quiet (oMkSlice 1 8 [(.int .i64 0)] (.tmp 14) (.tmp 14)), []⟩,
       ⟨4, some 16, none, .op .quiet (oMv (.tmp 0)), []⟩,
       ⟨5, some 17, none, .op .quiet (oBuild [(.slice none 0 0), (.slice none 0 0), (.int .i64 0)] [(0, 1), (1, 1), (2, 1)] [(.tmp 13), (.tmp 15), (.tmp 16)]), []⟩,
       ⟨6, some 18, none, .op .quiet (oBox (.tmp 17)), []⟩,
       ⟨7, some 4, none, .op .quiet (oMv (.tmp 18)), []⟩])
     (.seq
      (.seq
       (.ops [⟨0, some 19, none, .op .quiet (oMv (.tmp 0)), []⟩,
         ⟨1, some 20, none, .op .quiet (oMv (.val (.int .i64 0))), []⟩])
       (.block 0
        (.loop
         (.seq
          (.ops [⟨0, some 21, none, .op .quiet (oArith .lss (.tmp 20) (.tmp 19)), []⟩])
          (.seq
           (.cond (.tmp 21)
            (.skip)
            (.exit 0))
           (.seq
            (.block 1
             (.seq
              (.ops [⟨0, some 22, none, .op .quiet (oMv (.tmp 20)), []⟩,
                ⟨1, some 5, none, .op .quiet (oMv (.tmp 22)), []⟩])
              (.drawn [⟨0, some 23, none, .op .quiet (oMv (.tmp 4)), []⟩,
                ⟨1, some 24, none, .op .quiet (oNilCheck (.tmp 23)), []⟩,
                ⟨2, some 25, none, .op .quiet (oFieldAddr 0 (.tmp 24)), []⟩,
                ⟨3, some 26, none, .op .reads (oLoad (.tmp 25)), []⟩,
                ⟨4, some 27, none, .op .quiet (oMv (.tmp 5)), []⟩,
                ⟨5, some 28, none, .op .quiet (oMv (.tmp 4)), []⟩,
                ⟨6, some 29, none, .op .quiet (oNilCheck (.tmp 28)), []⟩,
                ⟨7, some 30, none, .op .quiet (oFieldAddr 1 (.tmp 29)), []⟩,
                ⟨8, some 31, none, .op .reads (oLoad (.tmp 30)), []⟩,
                ⟨9, some 32, none, .op .quiet (oMv (.tmp 5)), []⟩,
                ⟨10, some 33, none, .op .quiet (oMv (.tmp 5)), []⟩,
                ⟨11, some 34, none, .op .quiet (oIdxS 1 (.tmp 26) (.tmp 27)), []⟩,
                ⟨12, none, none, .op .hard (oStore 1 (.tmp 34) (.tmp 33)), []⟩,
                ⟨13, some 35, none, .op .quiet (oIdxS 1 (.tmp 31) (.tmp 32)), []⟩,
                ⟨14, none, none, .op .hard (oStore 1 (.tmp 35) (.val (.int .i64 1))), []⟩])))
            (.ops [⟨0, some 36, none, .op .quiet (oArith .add (.tmp 20) (.val (.int .i64 1))), []⟩,
              ⟨1, some 20, none, .op .quiet (oMv (.tmp 36)), []⟩])))))))
      (.seq
       (.ops [⟨0, some 37, none, .op .quiet (oMv (.tmp 4)), []⟩,
         ⟨1, some 2, none, .op .quiet (oMv (.tmp 37)), []⟩,
         ⟨2, some 3, none, .op .quiet (oMv (.val (.int .i64 0))), []⟩])
       (.ret))))))⟩
/-- (*tangram/comps.Sets).Join -/
noncomputable def a257 : AF := ⟨[.tmp 6],
 (.seq
   (.ops [⟨0, some 6, none, .op .quiet (oMv (.val (.bool false))), []⟩])
   (.seq
    (.seq
     (.ops [⟨0, some 9, none, .op .quiet (oMv (.tmp 0)), []⟩,
       ⟨1, some 10, none, .op .quiet (oMv (.tmp 1)), []⟩,
       ⟨2, some 11, none, .callF 309 [(.tmp 9), (.tmp 10)], []⟩,
       ⟨3, some 12, none, .op .quiet (oNot (.tmp 11)), []⟩,
       ⟨4, some 13, none, .op .quiet (oMv (.tmp 12)), []⟩,
       ⟨5, some 14, some (13, false), .op .quiet (oMv (.tmp 0)), []⟩,
       ⟨6, some 15, some (13, false), .op .quiet (oMv (.tmp 2)), []⟩,
       ⟨7, some 16, some (13, false), .callF 309 [(.tmp 14), (.tmp 15)], []⟩,
       ⟨8, some 17, some (13, false), .op .quiet (oNot (.tmp 16)), []⟩,
       ⟨9, some 18, none, .op .quiet (oPick (.tmp 13) (.val (.bool true)) (.tmp 17)), []⟩])
     (.cond (.tmp 18)
      (.seq
       (.ops [⟨0, some 6, none, .op .quiet (oMv (.val (.bool false))), []⟩])
       (.ret))
      (.skip)))
    (.seq
     (.drawn [⟨0, some 19, none, .op .quiet (oMv (.tmp 0)), []⟩,
       ⟨1, some 20, none, .op .quiet (oNilCheck (.tmp 19)), []⟩,
       ⟨2, some 21, none, .op .quiet (oFieldAddr 0 (.tmp 20)), []⟩,
       ⟨3, some 22, none, .op .reads (oLoad (.tmp 21)), []⟩,
       ⟨4, some 23, none, .op .quiet (oMv (.tmp 1)), []⟩,
       ⟨6, some 25, none, .op .quiet (oMv (.tmp 0)), []⟩,
       ⟨7, some 26, none, .op .quiet (oNilCheck (.tmp 25)), []⟩,
       ⟨8, some 27, none, .op .quiet (oFieldAddr 0 (.tmp 26)), []⟩,
       ⟨9, some 28, none, .op .reads (oLoad (.tmp 27)), []⟩,
       ⟨10, some 29, none, .op .quiet (oMv (.tmp 2)), []⟩,
       ⟨5, some 24, none, .callF 310 [(.tmp 22), (.tmp 23)], [9]⟩,
       ⟨11, some 30, none, .callF 310 [(.tmp 28), (.tmp 29)], []⟩,
       ⟨12, some 7, none, .op .quiet (oMv (.tmp 24)), []⟩,
       ⟨13, some 8, none, .op .quiet (oMv (.tmp 30)), []⟩])
     (.seq
      (.seq
       (.ops [⟨0, some 31, none, .op .quiet (oMv (.tmp 7)), []⟩,
         ⟨1, some 32, none, .op .quiet (oMv (.tmp 8)), []⟩,
         ⟨2, some 33, none, .op .quiet (oArith .eql (.tmp 31) (.tmp 32)), []⟩])
       (.cond (.tmp 33)
        (.seq
         (.ops [⟨0, some 6, none, .op .quiet (oMv (.val (.bool false))), []⟩])
         (.ret))
        (.skip)))
      (.seq
       (.ops [⟨0, some 34, none, .op .quiet (oMv (.tmp 7)), []⟩,
         ⟨1, some 35, none, .op .quiet (oMv (.tmp 8)), []⟩,
         ⟨2, some 36, none, .op .quiet (oMin (.tmp 34) [(.tmp 35)]), []⟩,
         ⟨3, some 37, none, .op .quiet (oMv (.tmp 7)), []⟩,
         ⟨4, some 38, none, .op .quiet (oMv (.tmp 8)), []⟩,
         ⟨5, some 39, none, .op .quiet (oMax (.tmp 37) [(.tmp 38)]), []⟩,
         ⟨6, some 7, none, .op .quiet (oMv (.tmp 36)), []⟩,
         ⟨7, some 8, none, .op .quiet (oMv (.tmp 39)), []⟩])
       (.seq
        (.ops [⟨0, some 40, none, .op .quiet (oMv (.tmp 0)), []⟩,
          ⟨1, some 41, none, .op .quiet (oNilCheck (.tmp 40)), []⟩,
          ⟨2, some 42, none, .op .quiet (oFieldAddr 0 (.tmp 41)), []⟩,
          ⟨3, some 43, none, .op .reads (oLoad (.tmp 42)), []⟩,
          ⟨4, some 44, none, .op .quiet (oMv (.tmp 8)), []⟩,
          ⟨5, some 45, none, .op .quiet (oMv (.tmp 7)), []⟩,
          ⟨6, some 46, none, .op .quiet (oIdxS 1 (.tmp 43) (.tmp 44)), []⟩,
          ⟨7, none, none, .op .hard (oStore 1 (.tmp 46) (.tmp 45)), []⟩])
        (.seq
         (.drawn [⟨0, some 47, none, .op .quiet (oMv (.tmp 0)), []⟩,
           ⟨1, some 48, none, .op .quiet (oNilCheck (.tmp 47)), []⟩,
           ⟨2, some 49, none, .op .quiet (oFieldAddr 1 (.tmp 48)), []⟩,
           ⟨3, some 50, none, .op .reads (oLoad (.tmp 49)), []⟩,
           ⟨4, some 51, none, .op .quiet (oMv (.tmp 7)), []⟩,
           ⟨5, some 52, none, .op .quiet (oIdxS 1 (.tmp 50) (.tmp 51)), []⟩,
           ⟨6, some 53, none, .op .reads (oLoad (.tmp 52)), []⟩,
           ⟨7, some 54, none, .op .quiet (oMv (.tmp 0)), []⟩,
           ⟨8, some 55, none, .op .quiet (oNilCheck (.tmp 54)), []⟩,
           ⟨9, some 56, none, .op .quiet (oFieldAddr 1 (.tmp 55)), []⟩,
           ⟨10, some 57, none, .op .reads (oLoad (.tmp 56)), []⟩,
           ⟨11, some 58, none, .op .quiet (oMv (.tmp 8)), []⟩,
           ⟨12, some 59, none, .op .quiet (oIdxS 1 (.tmp 57) (.tmp 58)), []⟩,
           ⟨13, some 60, none, .op .reads (oLoad (.tmp 59)), []⟩,
           ⟨14, some 61, none, .op .quiet (oArith .add (.tmp 53) (.tmp 60)), []⟩,
           ⟨15, some 62, none, .op .quiet (oIdxS 1 (.tmp 50) (.tmp 51)), []⟩,
           ⟨16, none, none, .op .hard (oStore 1 (.tmp 62) (.tmp 61)), []⟩])
         (.seq
          (.ops [⟨0, some 63, none, .op .quiet (oMv (.tmp 0)), []⟩,
            ⟨1, some 64, none, .op .quiet (oNilCheck (.tmp 63)), []⟩,
            ⟨2, some 65, none, .op .quiet (oFieldAddr 2 (.tmp 64)), []⟩,
            ⟨3, some 66, none, .op .reads (oLoad (.tmp 65)), []⟩,
            ⟨4, some 67, none, .op .quiet (oArith .sub (.tmp 66) (.val (.int .i64 1))), []⟩,
            ⟨5, some 68, none, .op .quiet (oNilCheck (.tmp 63)), []⟩,
            ⟨6, some 69, none, .op .quiet (oFieldAddr 2 (.tmp 68)), []⟩,
            ⟨7, none, none, .op .hard (oStore 1 (.tmp 69) (.tmp 67)), []⟩])
          (.seq
           (.ops [⟨0, some 6, none, .op .quiet (oMv (.val (.bool true))), []⟩])
           (.ret))))))))))⟩
/-- (*tangram/comps.Sets).numbers -/
noncomputable def a258 : AF := ⟨[.tmp 2, .tmp 3],
 (.seq
   (.ops [⟨0, some 2, none, .op .quiet (oMv (.val (.slice none 0 0))), []⟩,
     ⟨1, some 3, none, .op .quiet (oMv (.val (.int .i64 0))), []⟩])
   (.seq
    (.ops [⟨0, some 8, none, .op .quiet (oMv (.tmp 0)), []⟩,
      ⟨1, some 9, none, .op .quiet (oNilCheck (.tmp 8)), []⟩,
      ⟨2, some 10, none, .op .quiet (oFieldAddr 0 (.tmp 9)), []⟩,
      ⟨3, some 11, none, .op .reads (oLoad (.tmp 10)), []⟩,
      ⟨4, some 12, none, .op .reads (oLen .slice (.tmp 11)), []⟩,
      ⟨5, some 13, none, .op .quiet (oMkSlice 1 8 [(.int .i64 0)] (.tmp 12) (.tmp 12)), []⟩,
      ⟨6, some 4, none, .op .quiet (oMv (.tmp 13)), []⟩])
    (.seq
     (.ops [⟨0, some 5, none, .op .quiet (oMv (.val (.int .i64 0))), []⟩])
     (.seq
      (.seq
       (.ops [⟨0, some 14, none, .op .quiet (oMv (.tmp 4)), []⟩,
         ⟨1, some 15, none, .op .reads (oLen .slice (.tmp 14)), []⟩,
         ⟨2, some 16, none, .op .quiet (oMv (.val (.int .i64 0))), []⟩])
       (.block 0
        (.loop
         (.seq
          (.ops [⟨0, some 17, none, .op .quiet (oArith .lss (.tmp 16) (.tmp 15)), []⟩])
          (.seq
           (.cond (.tmp 17)
            (.skip)
            (.exit 0))
           (.seq
            (.block 1
             (.seq
              (.ops [⟨0, some 18, none, .op .quiet (oMv (.tmp 16)), []⟩,
                ⟨1, some 6, none, .op .quiet (oMv (.tmp 18)), []⟩])
              (.seq
               (.seq
                (.ops [⟨0, some 19, none, .op .quiet (oMv (.tmp 0)), []⟩,
                  ⟨1, some 20, none, .op .quiet (oNilCheck (.tmp 19)), []⟩,
                  ⟨2, some 21, none, .op .quiet (oFieldAddr 0 (.tmp 20)), []⟩,
                  ⟨3, some 22, none, .op .reads (oLoad (.tmp 21)), []⟩,
                  ⟨4, some 23, none, .op .quiet (oMv (.tmp 6)), []⟩,
                  ⟨5, some 24, none, .callF 310 [(.tmp 22), (.tmp 23)], []⟩,
                  ⟨6, some 7, none, .op .quiet (oMv (.tmp 24)), []⟩])
                (.seq
                 (.ops [⟨0, some 25, none, .op .quiet (oMv (.tmp 7)), []⟩,
                   ⟨1, some 26, none, .op .quiet (oMv (.tmp 6)), []⟩,
                   ⟨2, some 27, none, .op .quiet (oArith .lss (.tmp 25) (.tmp 26)), []⟩])
                 (.cond (.tmp 27)
                  (.seq
                   (.ops [⟨0, some 28, none, .op .quiet (oMv (.tmp 4)), []⟩,
                     ⟨1, some 29, none, .op .quiet (oMv (.tmp 6)), []⟩,
                     ⟨2, some 30, none, .op .quiet (oMv (.tmp 4)), []⟩,
                     ⟨3, some 31, none, .op .quiet (oMv (.tmp 7)), []⟩,
                     ⟨4, some 32, none, .op .quiet (oIdxS 1 (.tmp 30) (.tmp 31)), []⟩,
                     ⟨5, some 33, none, .op .reads (oLoad (.tmp 32)), []⟩,
                     ⟨6, some 34, none, .op .quiet (oIdxS 1 (.tmp 28) (.tmp 29)), []⟩,
                     ⟨7, none, none, .op .hard (oStore 1 (.tmp 34) (.tmp 33)), []⟩])
                   (.exit 1))
                  (.skip))))
               (.seq
                (.ops [⟨0, some 35, none, .op .quiet (oMv (.tmp 4)), []⟩,
                  ⟨1, some 36, none, .op .quiet (oMv (.tmp 6)), []⟩,
                  ⟨2, some 37, none, .op .quiet (oMv (.tmp 5)), []⟩,
                  ⟨3, some 38, none, .op .quiet (oIdxS 1 (.tmp 35) (.tmp 36)), []⟩,
                  ⟨4, none, none, .op .hard (oStore 1 (.tmp 38) (.tmp 37)), []⟩])
                (.ops [⟨0, some 39, none, .op .quiet (oMv (.tmp 5)), []⟩,
                  ⟨1, some 40, none, .op .quiet (oArith .add (.tmp 39) (.val (.int .i64 1))), []⟩,
                  ⟨2, some 5, none, .op .quiet (oMv (.tmp 40)), []⟩])))))
            (.ops [⟨0, some 41, none, .op .quiet (oArith .add (.tmp 16) (.val (.int .i64 1))), []⟩,
              ⟨1, some 16, none, .op .quiet (oMv (.tmp 41)), []⟩])))))))
      (.seq
       (.ops [⟨0, some 42, none, .op .quiet (oMv (.tmp 4)), []⟩,
         ⟨1, some 43, none, .op .quiet (oMv (.tmp 5)), []⟩,
         ⟨2, some 2, none, .op .quiet (oMv (.tmp 42)), []⟩,
         ⟨3, some 3, none, .op .quiet (oMv (.tmp 43)), []⟩])
       (.ret))))))⟩
/-- tangram/rot.From$1 -/
noncomputable def a261 : AF := ⟨[],
 (.seq
   (.ops [⟨0, some 15, none, .op .reads (oLoadN 2 (.tmp 0)), []⟩,
     ⟨1, some 16, none, .callF 92 [(.tmp 15)], []⟩,
     ⟨2, some 17, none, .callF 203 [(.tmp 16), (.val (.int .i64 0)), (.val (.int .i64 1))], []⟩])
   (.seq
    (.ops [⟨0, some 18, none, .op .reads (oLoad (.tmp 1)), []⟩,
      ⟨1, some 19, none, .op .reads (oLen .slice (.tmp 18)), []⟩,
      ⟨2, some 20, none, .op .quiet (oFieldAddr 0 (.tmp 0)), []⟩,
      ⟨3, some 21, none, .op .reads (oLoad (.tmp 20)), []⟩,
      ⟨4, some 22, none, .op .quiet (oArith .eql (.tmp 19) (.tmp 21)), []⟩,
      ⟨5, some 23, none, .callF 203 [(.tmp 22), (.val (.int .i64 0)), (.val (.int .i64 110))], []⟩])
    (.seq
     (.ops [⟨0, some 24, none, .op .quiet (oMkMap), []⟩,
       ⟨1, some 3, none, .op .quiet (oMv (.tmp 24)), []⟩])
     (.seq
      (.seq
       (.ops [⟨0, some 25, none, .op .quiet (oFieldAddr 1 (.tmp 0)), []⟩,
         ⟨1, some 26, none, .op .reads (oLoad (.tmp 25)), []⟩,
         ⟨2, some 27, none, .op .reads (oLen .slice (.tmp 26)), []⟩,
         ⟨3, some 28, none, .op .quiet (oMv (.val (.int .i64 0))), []⟩])
       (.block 0
        (.loop
         (.seq
          (.ops [⟨0, some 29, none, .op .quiet (oArith .lss (.tmp 28) (.tmp 27)), []⟩])
          (.seq
           (.cond (.tmp 29)
            (.skip)
            (.exit 0))
           (.seq
            (.block 1
             (.seq
              (.ops [⟨0, some 30, none, .op .quiet (oMv (.tmp 28)), []⟩,
                ⟨1, some 31, none, .op .quiet (oIdxS 2 (.tmp 26) (.tmp 28)), []⟩,
                ⟨2, some 32, none, .op .reads (oLoadN 2 (.tmp 31)), []⟩,
                ⟨3, some 5, none, .op .quiet (oAlloc [(.int .i64 0), (.int .i64 0)]), []⟩,
                ⟨4, some 4, none, .op .quiet (oMv (.tmp 30)), []⟩,
                ⟨5, none, none, .op .hard (oStore 2 (.tmp 5) (.tmp 32)), []⟩])
              (.drawn [⟨0, some 33, none, .op .quiet (oMv (.tmp 3)), []⟩,
                ⟨1, some 34, none, .op .quiet (oFieldAddr 0 (.tmp 5)), []⟩,
                ⟨2, some 35, none, .op .reads (oLoad (.tmp 34)), []⟩,
                ⟨3, some 36, none, .op .quiet (oFieldAddr 1 (.tmp 5)), []⟩,
                ⟨4, some 37, none, .op .reads (oLoad (.tmp 36)), []⟩,
                ⟨5, some 38, none, .op .quiet (oBuild [(.int .i64 0), (.int .i64 0)] [(0, 1), (1, 1)] [(.tmp 35), (.tmp 37)]), []⟩,
                ⟨6, some 39, none, .op .quiet (oMv (.tmp 3)), []⟩,
                ⟨7, some 40, none, .op .quiet (oFieldAddr 1 (.tmp 5)), []⟩,
                ⟨8, some 41, none, .op .reads (oLoad (.tmp 40)), []⟩,
                ⟨9, some 42, none, .op .quiet (oFieldAddr 0 (.tmp 5)), []⟩,
                ⟨10, some 43, none, .op .reads (oLoad (.tmp 42)), []⟩,
                ⟨11, some 44, none, .op .quiet (oBuild [(.int .i64 0), (.int .i64 0)] [(0, 1), (1, 1)] [(.tmp 41), (.tmp 43)]), []⟩,
                ⟨12, some 45, none, .op .quiet (oMv (.tmp 4)), []⟩,
                ⟨13, some 46, none, .op .quiet (oArith .mul (.val (.int .i64 2)) (.tmp 45)), []⟩,
                ⟨14, some 47, none, .op .quiet (oMv (.tmp 4)), []⟩,
                ⟨15, some 48, none, .op .quiet (oArith .mul (.val (.int .i64 2)) (.tmp 47)), []⟩,
                ⟨16, some 49, none, .op .quiet (oArith .add (.tmp 48) (.val (.int .i64 1))), []⟩,
                ⟨17, none, none, .op .hard (oUpdate (.ints 2) (.tmp 33) (.tmp 38) (.tmp 46)), [8, 10]⟩,
                ⟨18, none, none, .op .hard (oUpdate (.ints 2) (.tmp 39) (.tmp 44) (.tmp 49)), []⟩])))
            (.ops [⟨0, some 50, none, .op .quiet (oArith .add (.tmp 28) (.val (.int .i64 1))), []⟩,
              ⟨1, some 28, none, .op .quiet (oMv (.tmp 50)), []⟩])))))))
      (.seq
       (.ops [⟨0, some 52, none, .op .reads (oLoadN 2 (.tmp 0)), []⟩,
         ⟨1, some 53, none, .callF 204 [(.tmp 52)], []⟩,
         ⟨2, some 51, none, .op .quiet (oMv (.tmp 53)), []⟩,
         ⟨3, some 54, none, .op .quiet (oExtract 0 (.tmp 51)), []⟩,
         ⟨4, some 55, none, .op .quiet (oExtract 1 (.tmp 51)), []⟩,
         ⟨5, some 6, none, .op .quiet (oMv (.tmp 54)), []⟩,
         ⟨6, some 7, none, .op .quiet (oMv (.tmp 55)), []⟩])
       (.seq
        (.ops [⟨0, some 56, none, .op .quiet (oFieldAddr 0 (.tmp 0)), []⟩,
          ⟨1, some 57, none, .op .reads (oLoad (.tmp 56)), []⟩,
          ⟨2, some 58, none, .op .quiet (oMkSlice 1 24 [(.slice none 0 0)] (.tmp 57) (.tmp 57)), []⟩,
          ⟨3, none, none, .op .hard (oStore 1 (.tmp 2) (.tmp 58)), []⟩])
        (.seq
         (.ops [⟨0, some 59, none, .op .reads (oLoad (.tmp 1)), []⟩,
           ⟨1, some 60, none, .op .reads (oLen .slice (.tmp 59)), []⟩,
           ⟨2, some 61, none, .op .quiet (oMv (.val (.int .i64 0))), []⟩])
         (.block 2
          (.loop
           (.seq
            (.ops [⟨0, some 62, none, .op .quiet (oArith .lss (.tmp 61) (.tmp 60)), []⟩])
            (.seq
             (.cond (.tmp 62)
              (.skip)
              (.exit 2))
             (.seq
              (.block 3
               (.seq
                (.ops [⟨0, some 63, none, .op .quiet (oMv (.tmp 61)), []⟩,
                  ⟨1, some 64, none, .op .quiet (oIdxS 1 (.tmp 59) (.tmp 61)), []⟩,
                  ⟨2, some 65, none, .op .reads (oLoad (.tmp 64)), []⟩,
                  ⟨3, some 8, none, .op .quiet (oMv (.tmp 63)), []⟩,
                  ⟨4, some 9, none, .op .quiet (oMv (.tmp 65)), []⟩])
                (.seq
                 (.ops [⟨0, some 66, none, .op .quiet (oMkMap), []⟩,
                   ⟨1, some 10, none, .op .quiet (oMv (.tmp 66)), []⟩])
                 (.seq
                  (.seq
                   (.ops [⟨0, some 67, none, .op .quiet (oMv (.tmp 9)), []⟩,
                     ⟨1, some 68, none, .op .reads (oLen .slice (.tmp 67)), []⟩,
                     ⟨2, some 69, none, .op .quiet (oMv (.val (.int .i64 0))), []⟩])
                   (.block 4
                    (.loop
                     (.seq
                      (.ops [⟨0, some 70, none, .op .quiet (oArith .lss (.tmp 69) (.tmp 68)), []⟩])
                      (.seq
                       (.cond (.tmp 70)
                        (.skip)
                        (.exit 4))
                       (.seq
                        (.block 5
                         (.seq
                          (.ops [⟨0, some 71, none, .op .quiet (oIdxS 1 (.tmp 67) (.tmp 69)), []⟩,
                            ⟨1, some 72, none, .op .reads (oLoad (.tmp 71)), []⟩,
                            ⟨2, some 12, none, .op .quiet (oMv (.tmp 72)), []⟩])
                          (.seq
                           (.ops [⟨0, some 74, none, .op .quiet (oMv (.tmp 3)), []⟩,
                             ⟨1, some 75, none, .op .quiet (oMv (.tmp 8)), []⟩,
                             ⟨2, some 76, none, .op .quiet (oMv (.tmp 12)), []⟩,
                             ⟨3, some 77, none, .op .quiet (oBuild [(.int .i64 0), (.int .i64 0)] [(0, 1), (1, 1)] [(.tmp 75), (.tmp 76)]), []⟩,
                             ⟨4, some 78, none, .op .reads (oLookup (.ints 2) true (.int .i64 0) (.tmp 74) (.tmp 77)), []⟩,
                             ⟨5, some 73, none, .op .quiet (oMv (.tmp 78)), []⟩,
                             ⟨6, some 79, none, .op .quiet (oExtract 0 (.tmp 73)), []⟩,
                             ⟨7, some 80, none, .op .quiet (oExtract 1 (.tmp 73)), []⟩,
                             ⟨8, some 13, none, .op .quiet (oMv (.tmp 79)), []⟩,
                             ⟨9, some 14, none, .op .quiet (oMv (.tmp 80)), []⟩])
                           (.seq
                            (.ops [⟨0, some 81, none, .op .quiet (oMv (.tmp 14)), []⟩,
                              ⟨1, some 82, none, .op .quiet (oMv (.tmp 8)), []⟩,
                              ⟨2, some 83, none, .callF 203 [(.tmp 81), (.tmp 82), (.val (.int .i64 111))], []⟩])
                            (.seq
                             (.ops [⟨0, some 84, none, .op .quiet (oMv (.tmp 10)), []⟩,
                               ⟨1, some 85, none, .op .quiet (oMv (.tmp 13)), []⟩,
                               ⟨2, some 86, none, .op .reads (oLookup (.int .i64) false (.bool false) (.tmp 84) (.tmp 85)), []⟩,
                               ⟨3, some 87, none, .op .quiet (oNot (.tmp 86)), []⟩,
                               ⟨4, some 88, none, .op .quiet (oMv (.tmp 8)), []⟩,
                               ⟨5, some 89, none, .callF 203 [(.tmp 87), (.tmp 88), (.val (.int .i64 112))], []⟩])
                             (.seq
                              (.ops [⟨0, some 90, none, .op .quiet (oMv (.tmp 10)), []⟩,
                                ⟨1, some 91, none, .op .quiet (oMv (.tmp 13)), []⟩,
                                ⟨2, none, none, .op .hard (oUpdate (.int .i64) (.tmp 90) (.tmp 91) (.val (.bool true))), []⟩])
                              (.drawn [⟨0, some 92, none, .op .reads (oLoad (.tmp 2)), []⟩,
                                ⟨1, some 93, none, .op .quiet (oMv (.tmp 8)), []⟩,
                                ⟨2, some 94, none, .op .reads (oLoad (.tmp 2)), []⟩,
                                ⟨3, some 95, none, .op .quiet (oMv (.tmp 8)), []⟩,
                                ⟨4, some 96, none, .op .quiet (oIdxS 1 (.tmp 94) (.tmp 95)), []⟩,
                                ⟨5, some 97, none, .op .reads (oLoad (.tmp 96)), []⟩,
                                ⟨6, some 98, none, .op .quiet (oMv (.tmp 13)), []⟩,
                                ⟨7, some 99, none, .op .quiet (oBuildSlice 1 1 [(.int .i64 0)] [(0, 1)] [(.tmp 98)]), []⟩,
                                ⟨8, some 100, none, .op .hard (oAppend 1 8 (.tmp 97) (.tmp 99)), [0]⟩,
                                ⟨9, some 101, none, .op .quiet (oIdxS 1 (.tmp 92) (.tmp 93)), []⟩,
                                ⟨10, none, none, .op .hard (oStore 1 (.tmp 101) (.tmp 100)), []⟩])))))))
                        (.ops [⟨0, some 102, none, .op .quiet (oArith .add (.tmp 69) (.val (.int .i64 1))), []⟩,
                          ⟨1, some 69, none, .op .quiet (oMv (.tmp 102)), []⟩])))))))
                  (.ops [⟨0, some 103, none, .op .quiet (oMv (.tmp 9)), []⟩,
                    ⟨1, some 104, none, .op .reads (oLen .slice (.tmp 103)), []⟩,
                    ⟨2, some 105, none, .op .quiet (oMv (.tmp 6)), []⟩,
                    ⟨3, some 106, none, .op .quiet (oMv (.tmp 8)), []⟩,
                    ⟨4, some 107, none, .op .quiet (oIdxS 1 (.tmp 105) (.tmp 106)), []⟩,
                    ⟨5, some 108, none, .op .reads (oLoad (.tmp 107)), []⟩,
                    ⟨6, some 109, none, .op .quiet (oArith .eql (.tmp 104) (.tmp 108)), []⟩,
                    ⟨7, some 110, none, .op .quiet (oMv (.tmp 8)), []⟩,
                    ⟨8, some 111, none, .callF 203 [(.tmp 109), (.tmp 110), (.val (.int .i64 113))], []⟩])))))
              (.ops [⟨0, some 112, none, .op .quiet (oArith .add (.tmp 61) (.val (.int .i64 1))), []⟩,
                ⟨1, some 61, none, .op .quiet (oMv (.tmp 112)), []⟩])))))))))))))⟩
/-- tangram/edit.made$1 -/
noncomputable def a269 : AF := ⟨[.tmp 4],
 (.seq
   (.ops [⟨0, some 2, none, .op .quiet (oBox (.tmp 0)), []⟩,
     ⟨1, some 3, none, .op .quiet (oBox (.tmp 1)), []⟩,
     ⟨2, some 4, none, .op .quiet (oMv (.val (.int .i64 0))), []⟩])
   (.seq
    (.drawn [⟨0, some 5, none, .op .quiet (oFieldAddr 0 (.tmp 2)), []⟩,
      ⟨1, some 6, none, .op .reads (oLoad (.tmp 5)), []⟩,
      ⟨2, some 7, none, .op .quiet (oFieldAddr 0 (.tmp 3)), []⟩,
      ⟨3, some 8, none, .op .reads (oLoad (.tmp 7)), []⟩,
      ⟨5, some 10, none, .op .quiet (oFieldAddr 1 (.tmp 2)), []⟩,
      ⟨6, some 11, none, .op .reads (oLoad (.tmp 10)), []⟩,
      ⟨7, some 12, none, .op .quiet (oFieldAddr 1 (.tmp 3)), []⟩,
      ⟨8, some 13, none, .op .reads (oLoad (.tmp 12)), []⟩,
      ⟨4, some 9, none, .callF 271 [(.tmp 6), (.tmp 8)], [6, 8]⟩,
      ⟨9, some 14, none, .callF 271 [(.tmp 11), (.tmp 13)], []⟩,
      ⟨10, some 15, none, .op .quiet (oBuildSlice 1 2 [(.int .i64 0)] [(0, 1), (1, 1)] [(.tmp 9), (.tmp 14)]), []⟩,
      ⟨11, some 16, none, .callF 270 [(.tmp 15)], []⟩,
      ⟨12, some 4, none, .op .quiet (oMv (.tmp 16)), []⟩])
    (.ret)))⟩
/-- cmp.Or[int] -/
noncomputable def a270 : AF := ⟨[.tmp 2],
 (.seq
   (.ops [⟨0, some 2, none, .op .quiet (oMv (.val (.int .i64 0))), []⟩])
   (.seq
    (.ops [⟨0, some 3, none, .op .quiet (oMv (.val (.int .i64 0))), []⟩])
    (.seq
     (.seq
      (.ops [⟨0, some 6, none, .op .quiet (oMv (.tmp 0)), []⟩,
        ⟨1, some 7, none, .op .reads (oLen .slice (.tmp 6)), []⟩,
        ⟨2, some 8, none, .op .quiet (oMv (.val (.int .i64 0))), []⟩])
      (.block 0
       (.loop
        (.seq
         (.ops [⟨0, some 9, none, .op .quiet (oArith .lss (.tmp 8) (.tmp 7)), []⟩])
         (.seq
          (.cond (.tmp 9)
           (.skip)
           (.exit 0))
          (.seq
           (.block 1
            (.seq
             (.ops [⟨0, some 10, none, .op .quiet (oIdxS 1 (.tmp 6) (.tmp 8)), []⟩,
               ⟨1, some 11, none, .op .reads (oLoad (.tmp 10)), []⟩,
               ⟨2, some 5, none, .op .quiet (oMv (.tmp 11)), []⟩])
             (.seq
              (.ops [⟨0, some 12, none, .op .quiet (oMv (.tmp 5)), []⟩,
                ⟨1, some 13, none, .op .quiet (oMv (.tmp 3)), []⟩,
                ⟨2, some 14, none, .op .quiet (oArith .neq (.tmp 12) (.tmp 13)), []⟩])
              (.cond (.tmp 14)
               (.seq
                (.ops [⟨0, some 15, none, .op .quiet (oMv (.tmp 5)), []⟩,
                  ⟨1, some 2, none, .op .quiet (oMv (.tmp 15)), []⟩])
                (.ret))
               (.skip)))))
           (.ops [⟨0, some 16, none, .op .quiet (oArith .add (.tmp 8) (.val (.int .i64 1))), []⟩,
             ⟨1, some 8, none, .op .quiet (oMv (.tmp 16)), []⟩])))))))
     (.seq
      (.ops [⟨0, some 17, none, .op .quiet (oMv (.tmp 3)), []⟩,
        ⟨1, some 2, none, .op .quiet (oMv (.tmp 17)), []⟩])
      (.ret)))))⟩
/-- cmp.Compare[int] -/
noncomputable def a271 : AF := ⟨[.tmp 4],
 (.seq
   (.ops [⟨0, some 4, none, .op .quiet (oMv (.val (.int .i64 0))), []⟩])
   (.seq
    (.ops [⟨0, some 7, none, .op .quiet (oMv (.tmp 0)), []⟩,
      ⟨1, some 8, none, .callF 317 [(.tmp 7)], []⟩,
      ⟨2, some 5, none, .op .quiet (oMv (.tmp 8)), []⟩])
    (.seq
     (.ops [⟨0, some 9, none, .op .quiet (oMv (.tmp 1)), []⟩,
       ⟨1, some 10, none, .callF 317 [(.tmp 9)], []⟩,
       ⟨2, some 6, none, .op .quiet (oMv (.tmp 10)), []⟩])
     (.seq
      (.seq
       (.ops [⟨0, some 11, none, .op .quiet (oMv (.tmp 5)), []⟩])
       (.cond (.tmp 11)
        (.seq
         (.seq
          (.ops [⟨0, some 12, none, .op .quiet (oMv (.tmp 6)), []⟩])
          (.cond (.tmp 12)
           (.seq
            (.ops [⟨0, some 4, none, .op .quiet (oMv (.val (.int .i64 0))), []⟩])
            (.ret))
           (.skip)))
         (.seq
          (.ops [⟨0, some 4, none, .op .quiet (oMv (.val (.int .i64 (-1)))), []⟩])
          (.ret)))
        (.skip)))
      (.seq
       (.seq
        (.ops [⟨0, some 13, none, .op .quiet (oMv (.tmp 6)), []⟩])
        (.cond (.tmp 13)
         (.seq
          (.ops [⟨0, some 4, none, .op .quiet (oMv (.val (.int .i64 1))), []⟩])
          (.ret))
         (.skip)))
       (.seq
        (.seq
         (.ops [⟨0, some 14, none, .op .quiet (oMv (.tmp 0)), []⟩,
           ⟨1, some 15, none, .op .quiet (oMv (.tmp 1)), []⟩,
           ⟨2, some 16, none, .op .quiet (oArith .lss (.tmp 14) (.tmp 15)), []⟩])
         (.cond (.tmp 16)
          (.seq
           (.ops [⟨0, some 4, none, .op .quiet (oMv (.val (.int .i64 (-1)))), []⟩])
           (.ret))
          (.skip)))
        (.seq
         (.seq
          (.ops [⟨0, some 17, none, .op .quiet (oMv (.tmp 0)), []⟩,
            ⟨1, some 18, none, .op .quiet (oMv (.tmp 1)), []⟩,
            ⟨2, some 19, none, .op .quiet (oArith .gtr (.tmp 17) (.tmp 18)), []⟩])
          (.cond (.tmp 19)
           (.seq
            (.ops [⟨0, some 4, none, .op .quiet (oMv (.val (.int .i64 1))), []⟩])
            (.ret))
           (.skip)))
         (.seq
          (.ops [⟨0, some 4, none, .op .quiet (oMv (.val (.int .i64 0))), []⟩])
          (.ret)))))))))⟩
/-- (*tangram/csr.Adj).vertex -/
noncomputable def a284 : AF := ⟨[.tmp 4],
 (.seq
   (.ops [⟨0, some 4, none, .op .quiet (oMv (.val (.bool false))), []⟩])
   (.seq
    (.ops [⟨0, some 5, none, .op .quiet (oMv (.tmp 1)), []⟩,
      ⟨1, some 6, none, .op .quiet (oArith .geq (.tmp 5) (.val (.int .i64 0))), []⟩,
      ⟨2, some 7, none, .op .quiet (oMv (.tmp 6)), []⟩,
      ⟨3, some 8, some (7, true), .op .quiet (oMv (.tmp 1)), []⟩,
      ⟨4, some 9, some (7, true), .op .quiet (oMv (.tmp 0)), []⟩,
      ⟨5, some 10, some (7, true), .callF 329 [(.tmp 9)], []⟩,
      ⟨6, some 11, some (7, true), .op .quiet (oArith .lss (.tmp 8) (.tmp 10)), []⟩,
      ⟨7, some 12, none, .op .quiet (oPick (.tmp 7) (.tmp 11) (.val (.bool false))), []⟩,
      ⟨8, some 4, none, .op .quiet (oMv (.tmp 12)), []⟩])
    (.ret)))⟩
/-- tangram/dfs.places -/
noncomputable def a285 : AF := ⟨[.tmp 4, .tmp 5],
 (.seq
   (.ops [⟨0, some 2, none, .op .quiet (oBox (.tmp 0)), []⟩,
     ⟨1, some 3, none, .op .quiet (oBox (.tmp 1)), []⟩,
     ⟨2, some 4, none, .op .quiet (oMv (.val (.slice none 0 0))), []⟩,
     ⟨3, some 5, none, .op .quiet (oMv (.val (.bool false))), []⟩])
   (.seq
    (.ops [⟨0, some 9, none, .op .quiet (oFieldAddr 0 (.tmp 2)), []⟩,
      ⟨1, some 10, none, .op .reads (oLoad (.tmp 9)), []⟩,
      ⟨2, some 11, none, .callF 165 [(.tmp 10), (.val (.int .i64 (-1)))], []⟩,
      ⟨3, some 6, none, .op .quiet (oMv (.tmp 11)), []⟩])
    (.seq
     (.seq
      (.ops [⟨0, some 12, none, .op .quiet (oFieldAddr 2 (.tmp 3)), []⟩,
        ⟨1, some 13, none, .op .reads (oLoad (.tmp 12)), []⟩,
        ⟨2, some 14, none, .op .reads (oLen .slice (.tmp 13)), []⟩,
        ⟨3, some 15, none, .op .quiet (oMv (.val (.int .i64 0))), []⟩])
      (.block 0
       (.loop
        (.seq
         (.ops [⟨0, some 16, none, .op .quiet (oArith .lss (.tmp 15) (.tmp 14)), []⟩])
         (.seq
          (.cond (.tmp 16)
           (.skip)
           (.exit 0))
          (.seq
           (.block 1
            (.seq
             (.ops [⟨0, some 17, none, .op .quiet (oMv (.tmp 15)), []⟩,
               ⟨1, some 18, none, .op .quiet (oIdxS 1 (.tmp 13) (.tmp 15)), []⟩,
               ⟨2, some 19, none, .op .reads (oLoad (.tmp 18)), []⟩,
               ⟨3, some 7, none, .op .quiet (oMv (.tmp 17)), []⟩,
               ⟨4, some 8, none, .op .quiet (oMv (.tmp 19)), []⟩])
             (.seq
              (.seq
               (.ops [⟨0, some 20, none, .op .quiet (oMv (.tmp 8)), []⟩,
                 ⟨1, some 21, none, .op .quiet (oArith .lss (.tmp 20) (.val (.int .i64 0))), []⟩,
                 ⟨2, some 22, none, .op .quiet (oMv (.tmp 21)), []⟩,
                 ⟨3, some 23, some (22, false), .op .quiet (oMv (.tmp 8)), []⟩,
                 ⟨4, some 24, some (22, false), .op .quiet (oFieldAddr 0 (.tmp 2)), []⟩,
                 ⟨5, some 25, some (22, false), .op .reads (oLoad (.tmp 24)), []⟩,
                 ⟨6, some 26, some (22, false), .op .quiet (oArith .geq (.tmp 23) (.tmp 25)), []⟩,
                 ⟨7, some 27, none, .op .quiet (oPick (.tmp 22) (.val (.bool true)) (.tmp 26)), []⟩,
                 ⟨8, some 28, none, .op .quiet (oMv (.tmp 27)), []⟩,
                 ⟨9, some 29, some (28, false), .op .quiet (oMv (.tmp 6)), []⟩,
                 ⟨10, some 30, some (28, false), .op .quiet (oMv (.tmp 8)), []⟩,
                 ⟨11, some 31, some (28, false), .op .quiet (oIdxS 1 (.tmp 29) (.tmp 30)), []⟩,
                 ⟨12, some 32, some (28, false), .op .reads (oLoad (.tmp 31)), []⟩,
                 ⟨13, some 33, some (28, false), .op .quiet (oArith .geq (.tmp 32) (.val (.int .i64 0))), []⟩,
                 ⟨14, some 34, none, .op .quiet (oPick (.tmp 28) (.val (.bool true)) (.tmp 33)), []⟩])
               (.cond (.tmp 34)
                (.seq
                 (.ops [⟨0, some 4, none, .op .quiet (oMv (.val (.slice none 0 0))), []⟩,
                   ⟨1, some 5, none, .op .quiet (oMv (.val (.bool false))), []⟩])
                 (.ret))
                (.skip)))
              (.ops [⟨0, some 35, none, .op .quiet (oMv (.tmp 6)), []⟩,
                ⟨1, some 36, none, .op .quiet (oMv (.tmp 8)), []⟩,
                ⟨2, some 37, none, .op .quiet (oMv (.tmp 7)), []⟩,
                ⟨3, some 38, none, .op .quiet (oIdxS 1 (.tmp 35) (.tmp 36)), []⟩,
                ⟨4, none, none, .op .hard (oStore 1 (.tmp 38) (.tmp 37)), []⟩]))))
           (.ops [⟨0, some 39, none, .op .quiet (oArith .add (.tmp 15) (.val (.int .i64 1))), []⟩,
             ⟨1, some 15, none, .op .quiet (oMv (.tmp 39)), []⟩])))))))
     (.seq
      (.ops [⟨0, some 40, none, .op .quiet (oMv (.tmp 6)), []⟩,
        ⟨1, some 4, none, .op .quiet (oMv (.tmp 40)), []⟩,
        ⟨2, some 5, none, .op .quiet (oMv (.val (.bool true))), []⟩])
      (.ret)))))⟩
/-- tangram/dfs.hangs -/
noncomputable def a286 : AF := ⟨[.tmp 6],
 (.seq
   (.ops [⟨0, some 3, none, .op .quiet (oBox (.tmp 0)), []⟩,
     ⟨1, some 4, none, .op .quiet (oBox (.tmp 1)), []⟩,
     ⟨2, some 6, none, .op .quiet (oMv (.val (.bool false))), []⟩])
   (.seq
    (.ops [⟨0, some 10, none, .op .quiet (oFieldAddr 0 (.tmp 4)), []⟩,
      ⟨1, some 11, none, .op .reads (oLoad (.tmp 10)), []⟩,
      ⟨2, some 12, none, .op .quiet (oMv (.tmp 2)), []⟩,
      ⟨3, some 13, none, .op .quiet (oIdxS 1 (.tmp 11) (.tmp 12)), []⟩,
      ⟨4, some 14, none, .op .reads (oLoad (.tmp 13)), []⟩,
      ⟨5, some 7, none, .op .quiet (oMv (.tmp 14)), []⟩])
    (.seq
     (.seq
      (.ops [⟨0, some 15, none, .op .quiet (oMv (.tmp 7)), []⟩,
        ⟨1, some 16, none, .op .quiet (oArith .eql (.tmp 15) (.val (.int .i64 (-1)))), []⟩])
      (.cond (.tmp 16)
       (.seq
        (.ops [⟨0, some 17, none, .op .quiet (oFieldAddr 1 (.tmp 4)), []⟩,
          ⟨1, some 18, none, .op .reads (oLoad (.tmp 17)), []⟩,
          ⟨2, some 19, none, .op .quiet (oMv (.tmp 2)), []⟩,
          ⟨3, some 20, none, .op .quiet (oIdxS 1 (.tmp 18) (.tmp 19)), []⟩,
          ⟨4, some 21, none, .op .reads (oLoad (.tmp 20)), []⟩,
          ⟨5, some 22, none, .op .quiet (oArith .eql (.tmp 21) (.val (.int .i64 0))), []⟩,
          ⟨6, some 6, none, .op .quiet (oMv (.tmp 22)), []⟩])
        (.ret))
       (.skip)))
     (.seq
      (.seq
       (.ops [⟨0, some 23, none, .op .quiet (oMv (.tmp 7)), []⟩,
         ⟨1, some 24, none, .op .quiet (oArith .lss (.tmp 23) (.val (.int .i64 0))), []⟩,
         ⟨2, some 25, none, .op .quiet (oMv (.tmp 24)), []⟩,
         ⟨3, some 26, some (25, false), .op .quiet (oMv (.tmp 7)), []⟩,
         ⟨4, some 27, some (25, false), .op .quiet (oFieldAddr 1 (.tmp 3)), []⟩,
         ⟨5, some 28, some (25, false), .op .reads (oLoad (.tmp 27)), []⟩,
         ⟨6, some 29, some (25, false), .op .reads (oLen .slice (.tmp 28)), []⟩,
         ⟨7, some 30, some (25, false), .op .quiet (oArith .mul (.val (.int .i64 2)) (.tmp 29)), []⟩,
         ⟨8, some 31, some (25, false), .op .quiet (oArith .geq (.tmp 26) (.tmp 30)), []⟩,
         ⟨9, some 32, none, .op .quiet (oPick (.tmp 25) (.val (.bool true)) (.tmp 31)), []⟩,
         ⟨10, some 33, none, .op .quiet (oMv (.tmp 32)), []⟩,
         ⟨11, some 34, some (33, false), .op .quiet (oFieldAddr 3 (.tmp 4)), []⟩,
         ⟨12, some 35, some (33, false), .op .reads (oLoad (.tmp 34)), []⟩,
         ⟨13, some 36, some (33, false), .op .quiet (oMv (.tmp 7)), []⟩,
         ⟨14, some 37, some (33, false), .op .quiet (oArith .quo (.tmp 36) (.val (.int .i64 2))), []⟩,
         ⟨15, some 38, some (33, false), .op .quiet (oIdxS 1 (.tmp 35) (.tmp 37)), []⟩,
         ⟨16, some 39, some (33, false), .op .reads (oLoad (.tmp 38)), []⟩,
         ⟨17, some 40, some (33, false), .op .quiet (oMv (.tmp 7)), []⟩,
         ⟨18, some 41, some (33, false), .op .quiet (oArith .neq (.tmp 39) (.tmp 40)), []⟩,
         ⟨19, some 42, none, .op .quiet (oPick (.tmp 33) (.val (.bool true)) (.tmp 41)), []⟩])
       (.cond (.tmp 42)
        (.seq
         (.ops [⟨0, some 6, none, .op .quiet (oMv (.val (.bool false))), []⟩])
         (.ret))
        (.skip)))
      (.seq
       (.ops [⟨0, some 44, none, .op .reads (oLoadN 2 (.tmp 3)), []⟩,
         ⟨1, some 45, none, .op .quiet (oMv (.tmp 7)), []⟩,
         ⟨2, some 46, none, .callF 287 [(.tmp 44), (.tmp 45)], []⟩,
         ⟨3, some 43, none, .op .quiet (oMv (.tmp 46)), []⟩,
         ⟨4, some 47, none, .op .quiet (oExtract 0 (.tmp 43)), []⟩,
         ⟨5, some 48, none, .op .quiet (oExtract 1 (.tmp 43)), []⟩,
         ⟨6, some 8, none, .op .quiet (oMv (.tmp 47)), []⟩,
         ⟨7, some 9, none, .op .quiet (oMv (.tmp 48)), []⟩])
       (.seq
        (.drawn [⟨0, some 49, none, .op .quiet (oMv (.tmp 9)), []⟩,
          ⟨1, some 50, none, .op .quiet (oMv (.tmp 2)), []⟩,
          ⟨2, some 51, none, .op .quiet (oArith .eql (.tmp 49) (.tmp 50)), []⟩,
          ⟨3, some 52, none, .op .quiet (oMv (.tmp 51)), []⟩,
          ⟨4, some 53, some (52, true), .op .quiet (oFieldAddr 1 (.tmp 4)), []⟩,
          ⟨5, some 54, some (52, true), .op .reads (oLoad (.tmp 53)), []⟩,
          ⟨6, some 55, some (52, true), .op .quiet (oMv (.tmp 2)), []⟩,
          ⟨7, some 56, some (52, true), .op .quiet (oIdxS 1 (.tmp 54) (.tmp 55)), []⟩,
          ⟨8, some 57, some (52, true), .op .reads (oLoad (.tmp 56)), []⟩,
          ⟨9, some 58, some (52, true), .op .quiet (oFieldAddr 1 (.tmp 4)), []⟩,
          ⟨10, some 59, some (52, true), .op .reads (oLoad (.tmp 58)), []⟩,
          ⟨11, some 60, some (52, true), .op .quiet (oMv (.tmp 8)), []⟩,
          ⟨12, some 61, some (52, true), .op .quiet (oIdxS 1 (.tmp 59) (.tmp 60)), []⟩,
          ⟨13, some 62, some (52, true), .op .reads (oLoad (.tmp 61)), []⟩,
          ⟨14, some 63, some (52, true), .op .quiet (oArith .add (.tmp 62) (.val (.int .i64 1))), []⟩,
          ⟨15, some 64, some (52, true), .op .quiet (oArith .eql (.tmp 57) (.tmp 63)), []⟩,
          ⟨16, some 65, none, .op .quiet (oPick (.tmp 52) (.tmp 64) (.val (.bool false))), []⟩,
          ⟨17, some 6, none, .op .quiet (oMv (.tmp 65)), []⟩])
        (.ret)))))))⟩
/-- tangram/dfs.ends -/
noncomputable def a287 : AF := ⟨[.tmp 4, .tmp 5],
 (.seq
   (.ops [⟨0, some 2, none, .op .quiet (oBox (.tmp 0)), []⟩,
     ⟨1, some 4, none, .op .quiet (oMv (.val (.int .i64 0))), []⟩,
     ⟨2, some 5, none, .op .quiet (oMv (.val (.int .i64 0))), []⟩])
   (.seq
    (.ops [⟨0, some 7, none, .op .quiet (oFieldAddr 1 (.tmp 2)), []⟩,
      ⟨1, some 8, none, .op .reads (oLoad (.tmp 7)), []⟩,
      ⟨2, some 9, none, .op .quiet (oMv (.tmp 1)), []⟩,
      ⟨3, some 10, none, .op .quiet (oArith .quo (.tmp 9) (.val (.int .i64 2))), []⟩,
      ⟨4, some 11, none, .op .quiet (oIdxS 2 (.tmp 8) (.tmp 10)), []⟩,
      ⟨5, some 12, none, .op .reads (oLoadN 2 (.tmp 11)), []⟩,
      ⟨6, some 6, none, .op .quiet (oAlloc [(.int .i64 0), (.int .i64 0)]), []⟩,
      ⟨7, none, none, .op .hard (oStore 2 (.tmp 6) (.tmp 12)), []⟩])
    (.seq
     (.seq
      (.ops [⟨0, some 13, none, .op .quiet (oMv (.tmp 1)), []⟩,
        ⟨1, some 14, none, .op .quiet (oArith .rem (.tmp 13) (.val (.int .i64 2))), []⟩,
        ⟨2, some 15, none, .op .quiet (oArith .eql (.tmp 14) (.val (.int .i64 0))), []⟩])
      (.cond (.tmp 15)
       (.seq
        (.drawn [⟨0, some 16, none, .op .quiet (oFieldAddr 0 (.tmp 6)), []⟩,
          ⟨1, some 17, none, .op .reads (oLoad (.tmp 16)), []⟩,
          ⟨2, some 18, none, .op .quiet (oFieldAddr 1 (.tmp 6)), []⟩,
          ⟨3, some 19, none, .op .reads (oLoad (.tmp 18)), []⟩,
          ⟨4, some 4, none, .op .quiet (oMv (.tmp 17)), []⟩,
          ⟨5, some 5, none, .op .quiet (oMv (.tmp 19)), []⟩])
        (.ret))
       (.skip)))
     (.seq
      (.drawn [⟨0, some 20, none, .op .quiet (oFieldAddr 1 (.tmp 6)), []⟩,
        ⟨1, some 21, none, .op .reads (oLoad (.tmp 20)), []⟩,
        ⟨2, some 22, none, .op .quiet (oFieldAddr 0 (.tmp 6)), []⟩,
        ⟨3, some 23, none, .op .reads (oLoad (.tmp 22)), []⟩,
        ⟨4, some 4, none, .op .quiet (oMv (.tmp 21)), []⟩,
        ⟨5, some 5, none, .op .quiet (oMv (.tmp 23)), []⟩])
      (.ret)))))⟩
/-- (*tangram/embed.ring).ends -/
noncomputable def a288 : AF := ⟨[.tmp 4, .tmp 5],
 (.seq
   (.ops [⟨0, some 4, none, .op .quiet (oMv (.val (.int .i64 0))), []⟩,
     ⟨1, some 5, none, .op .quiet (oMv (.val (.int .i64 0))), []⟩])
   (.seq
    (.ops [⟨0, some 7, none, .op .quiet (oMv (.tmp 0)), []⟩,
      ⟨1, some 8, none, .op .quiet (oNilCheck (.tmp 7)), []⟩,
      ⟨2, some 9, none, .op .quiet (oFieldAddr 0 (.tmp 8)), []⟩,
      ⟨3, some 10, none, .op .quiet (oFieldAddr 1 (.tmp 9)), []⟩,
      ⟨4, some 11, none, .op .reads (oLoad (.tmp 10)), []⟩,
      ⟨5, some 12, none, .op .quiet (oMv (.tmp 1)), []⟩,
      ⟨6, some 13, none, .op .quiet (oArith .quo (.tmp 12) (.val (.int .i64 2))), []⟩,
      ⟨7, some 14, none, .op .quiet (oIdxS 2 (.tmp 11) (.tmp 13)), []⟩,
      ⟨8, some 15, none, .op .reads (oLoadN 2 (.tmp 14)), []⟩,
      ⟨9, some 6, none, .op .quiet (oAlloc [(.int .i64 0), (.int .i64 0)]), []⟩,
      ⟨10, none, none, .op .hard (oStore 2 (.tmp 6) (.tmp 15)), []⟩])
    (.seq
     (.seq
      (.ops [⟨0, some 16, none, .op .quiet (oMv (.tmp 1)), []⟩,
        ⟨1, some 17, none, .op .quiet (oArith .rem (.tmp 16) (.val (.int .i64 2))), []⟩,
        ⟨2, some 18, none, .op .quiet (oArith .eql (.tmp 17) (.val (.int .i64 0))), []⟩])
      (.cond (.tmp 18)
       (.seq
        (.drawn [⟨0, some 19, none, .op .quiet (oFieldAddr 0 (.tmp 6)), []⟩,
          ⟨1, some 20, none, .op .reads (oLoad (.tmp 19)), []⟩,
          ⟨2, some 21, none, .op .quiet (oFieldAddr 1 (.tmp 6)), []⟩,
          ⟨3, some 22, none, .op .reads (oLoad (.tmp 21)), []⟩,
          ⟨4, some 4, none, .op .quiet (oMv (.tmp 20)), []⟩,
          ⟨5, some 5, none, .op .quiet (oMv (.tmp 22)), []⟩])
        (.ret))
       (.skip)))
     (.seq
      (.drawn [⟨0, some 23, none, .op .quiet (oFieldAddr 1 (.tmp 6)), []⟩,
        ⟨1, some 24, none, .op .reads (oLoad (.tmp 23)), []⟩,
        ⟨2, some 25, none, .op .quiet (oFieldAddr 0 (.tmp 6)), []⟩,
        ⟨3, some 26, none, .op .reads (oLoad (.tmp 25)), []⟩,
        ⟨4, some 4, none, .op .quiet (oMv (.tmp 24)), []⟩,
        ⟨5, some 5, none, .op .quiet (oMv (.tmp 26)), []⟩])
      (.ret)))))⟩
/-- (*tangram/embed.ring).ahead -/
noncomputable def a289 : AF := ⟨[],
 (.ops [⟨0, some 6, none, .op .quiet (oMv (.tmp 0)), []⟩,
    ⟨1, some 7, none, .op .quiet (oMv (.tmp 0)), []⟩,
    ⟨2, some 8, none, .op .quiet (oNilCheck (.tmp 7)), []⟩,
    ⟨3, some 9, none, .op .quiet (oFieldAddr 7 (.tmp 8)), []⟩,
    ⟨4, some 10, none, .op .reads (oLoad (.tmp 9)), []⟩,
    ⟨5, some 11, none, .op .quiet (oMv (.tmp 1)), []⟩,
    ⟨6, some 12, none, .op .quiet (oIdxS 1 (.tmp 10) (.tmp 11)), []⟩,
    ⟨7, some 13, none, .op .reads (oLoad (.tmp 12)), []⟩,
    ⟨8, some 14, none, .op .quiet (oMv (.tmp 2)), []⟩,
    ⟨9, some 15, none, .callF 330 [(.tmp 6), (.tmp 13), (.tmp 14)], []⟩])⟩
/-- (*tangram/embed.ring).inner -/
noncomputable def a290 : AF := ⟨[],
 (.ops [⟨0, some 6, none, .op .quiet (oMv (.tmp 0)), []⟩,
    ⟨1, some 7, none, .op .quiet (oMv (.tmp 0)), []⟩,
    ⟨2, some 8, none, .op .quiet (oNilCheck (.tmp 7)), []⟩,
    ⟨3, some 9, none, .op .quiet (oFieldAddr 10 (.tmp 8)), []⟩,
    ⟨4, some 10, none, .op .reads (oLoad (.tmp 9)), []⟩,
    ⟨5, some 11, none, .op .quiet (oMv (.tmp 1)), []⟩,
    ⟨6, some 12, none, .op .quiet (oIdxS 1 (.tmp 10) (.tmp 11)), []⟩,
    ⟨7, some 13, none, .op .reads (oLoad (.tmp 12)), []⟩,
    ⟨8, some 14, none, .op .quiet (oMv (.tmp 2)), []⟩,
    ⟨9, some 15, none, .callF 330 [(.tmp 6), (.tmp 13), (.tmp 14)], []⟩])⟩
/-- (*tangram/embed.ring).outer -/
noncomputable def a291 : AF := ⟨[],
 (.seq
   (.ops [⟨0, some 6, none, .op .quiet (oMv (.tmp 0)), []⟩,
     ⟨1, some 7, none, .op .quiet (oMv (.tmp 0)), []⟩,
     ⟨2, some 8, none, .op .quiet (oNilCheck (.tmp 7)), []⟩,
     ⟨3, some 9, none, .op .quiet (oFieldAddr 9 (.tmp 8)), []⟩,
     ⟨4, some 10, none, .op .reads (oLoad (.tmp 9)), []⟩,
     ⟨5, some 11, none, .op .quiet (oMv (.tmp 1)), []⟩,
     ⟨6, some 12, none, .op .quiet (oIdxS 1 (.tmp 10) (.tmp 11)), []⟩,
     ⟨7, some 13, none, .op .reads (oLoad (.tmp 12)), []⟩,
     ⟨8, some 14, none, .op .quiet (oMv (.tmp 2)), []⟩,
     ⟨9, some 15, none, .callF 289 [(.tmp 6), (.tmp 13), (.tmp 14)], []⟩])
   (.ops [⟨0, some 16, none, .op .quiet (oMv (.tmp 0)), []⟩,
     ⟨1, some 17, none, .op .quiet (oNilCheck (.tmp 16)), []⟩,
     ⟨2, some 18, none, .op .quiet (oFieldAddr 9 (.tmp 17)), []⟩,
     ⟨3, some 19, none, .op .reads (oLoad (.tmp 18)), []⟩,
     ⟨4, some 20, none, .op .quiet (oMv (.tmp 1)), []⟩,
     ⟨5, some 21, none, .op .quiet (oMv (.tmp 2)), []⟩,
     ⟨6, some 22, none, .op .quiet (oIdxS 1 (.tmp 19) (.tmp 20)), []⟩,
     ⟨7, none, none, .op .hard (oStore 1 (.tmp 22) (.tmp 21)), []⟩]))⟩
/-- slices.Backward[[]int,int]$1 -/
noncomputable def a294 : AF := ⟨[],
 (.seq
   (.ops [⟨0, some 4, none, .op .reads (oLoad (.tmp 1)), []⟩,
     ⟨1, some 5, none, .op .reads (oLen .slice (.tmp 4)), []⟩,
     ⟨2, some 6, none, .op .quiet (oArith .sub (.tmp 5) (.val (.int .i64 1))), []⟩,
     ⟨3, some 3, none, .op .quiet (oMv (.tmp 6)), []⟩])
   (.block 0
    (.loop
     (.seq
      (.seq
       (.ops [⟨0, some 7, none, .op .quiet (oMv (.tmp 3)), []⟩,
         ⟨1, some 8, none, .op .quiet (oArith .geq (.tmp 7) (.val (.int .i64 0))), []⟩])
       (.cond (.tmp 8)
        (.skip)
        (.exit 0)))
      (.seq
       (.block 1
        (.seq
         (.ops [⟨0, some 11, none, .op .quiet (oMv (.tmp 0)), []⟩,
           ⟨1, some 12, none, .op .quiet (oMv (.tmp 3)), []⟩,
           ⟨2, some 13, none, .op .reads (oLoad (.tmp 1)), []⟩,
           ⟨3, some 14, none, .op .quiet (oMv (.tmp 3)), []⟩,
           ⟨4, some 15, none, .op .quiet (oIdxS 1 (.tmp 13) (.tmp 14)), []⟩,
           ⟨5, some 16, none, .op .reads (oLoad (.tmp 15)), []⟩,
           ⟨6, some 17, none, .call (.tmp 11) [(.tmp 12), (.tmp 16)], []⟩,
           ⟨7, some 18, none, .op .quiet (oNot (.tmp 17)), []⟩])
         (.cond (.tmp 18)
          (.ret)
          (.skip))))
       (.ops [⟨0, some 9, none, .op .quiet (oMv (.tmp 3)), []⟩,
         ⟨1, some 10, none, .op .quiet (oArith .sub (.tmp 9) (.val (.int .i64 1))), []⟩,
         ⟨2, some 3, none, .op .quiet (oMv (.tmp 10)), []⟩]))))))⟩
/-- tangram/low.lowest$1 -/
noncomputable def a295 : AF := ⟨[],
 (.block 0
   (.seq
    (.ops [⟨0, some 5, none, .op .quiet (oMv (.tmp 0)), []⟩,
      ⟨1, some 6, none, .op .reads (oLoad (.tmp 1)), []⟩,
      ⟨2, some 7, none, .op .quiet (oArith .lss (.tmp 5) (.tmp 6)), []⟩,
      ⟨3, some 4, none, .op .quiet (oMv (.tmp 7)), []⟩])
    (.cond (.tmp 4)
     (.ops [⟨0, some 8, none, .op .quiet (oMv (.tmp 0)), []⟩,
       ⟨1, some 9, none, .op .reads (oLoad (.tmp 1)), []⟩,
       ⟨2, none, none, .op .hard (oStore 1 (.tmp 1) (.tmp 8)), []⟩,
       ⟨3, none, none, .op .hard (oStore 1 (.tmp 2) (.tmp 9)), []⟩])
     (.seq
      (.ops [⟨0, some 11, none, .op .quiet (oMv (.tmp 0)), []⟩,
        ⟨1, some 12, none, .op .reads (oLoad (.tmp 1)), []⟩,
        ⟨2, some 13, none, .op .quiet (oArith .gtr (.tmp 11) (.tmp 12)), []⟩,
        ⟨3, some 14, none, .op .quiet (oMv (.tmp 13)), []⟩,
        ⟨4, some 15, some (14, true), .op .quiet (oMv (.tmp 0)), []⟩,
        ⟨5, some 16, some (14, true), .op .reads (oLoad (.tmp 2)), []⟩,
        ⟨6, some 17, some (14, true), .op .quiet (oArith .lss (.tmp 15) (.tmp 16)), []⟩,
        ⟨7, some 18, none, .op .quiet (oPick (.tmp 14) (.tmp 17) (.val (.bool false))), []⟩,
        ⟨8, some 10, none, .op .quiet (oMv (.tmp 18)), []⟩])
      (.cond (.tmp 10)
       (.ops [⟨0, some 19, none, .op .quiet (oMv (.tmp 0)), []⟩,
         ⟨1, none, none, .op .hard (oStore 1 (.tmp 2) (.tmp 19)), []⟩])
       (.skip))))))⟩
/-- tangram/low.lowest$2 -/
noncomputable def a296 : AF := ⟨[.tmp 2, .tmp 3],
 (.seq
   (.ops [⟨0, some 2, none, .op .quiet (oMv (.val (.int .i64 0))), []⟩,
     ⟨1, some 3, none, .op .quiet (oMv (.val (.int .i64 0))), []⟩])
   (.seq
    (.drawn [⟨0, some 4, none, .op .reads (oLoad (.tmp 0)), []⟩,
      ⟨1, some 5, none, .op .reads (oLoad (.tmp 1)), []⟩,
      ⟨2, some 2, none, .op .quiet (oMv (.tmp 4)), []⟩,
      ⟨3, some 3, none, .op .quiet (oMv (.tmp 5)), []⟩])
    (.ret)))⟩
/-- slices.Collect[int] -/
noncomputable def a297 : AF := ⟨[.tmp 2],
 (.seq
   (.ops [⟨0, some 2, none, .op .quiet (oMv (.val (.slice none 0 0))), []⟩])
   (.seq
    (.ops [⟨0, some 3, none, .op .quiet (oMv (.tmp 0)), []⟩,
      ⟨1, some 4, none, .callF 331 [(.val (.slice none 0 0)), (.tmp 3)], []⟩,
      ⟨2, some 2, none, .op .quiet (oMv (.tmp 4)), []⟩])
    (.ret)))⟩
/-- slices.Sort[[]int,int] -/
noncomputable def a298 : AF := ⟨[],
 (.seq
   (.ops [⟨0, some 3, none, .op .quiet (oMv (.tmp 0)), []⟩,
     ⟨1, some 4, none, .op .reads (oLen .slice (.tmp 3)), []⟩,
     ⟨2, some 2, none, .op .quiet (oMv (.tmp 4)), []⟩])
   (.ops [⟨0, some 5, none, .op .quiet (oMv (.tmp 0)), []⟩,
     ⟨1, some 6, none, .op .quiet (oMv (.tmp 2)), []⟩,
     ⟨2, some 7, none, .op .quiet (oMv (.tmp 2)), []⟩,
     ⟨3, some 8, none, .op .quiet (oConv .u64 (.tmp 7)), []⟩,
     ⟨4, some 9, none, .callF 307 [(.tmp 8)], []⟩,
     ⟨5, some 10, none, .callF 332 [(.tmp 5), (.val (.int .i64 0)), (.tmp 6), (.tmp 9)], []⟩]))⟩
/-- slices.Values[[]int,int]$1 -/
noncomputable def a299 : AF := ⟨[],
 (.seq
   (.ops [⟨0, some 5, none, .op .reads (oLoad (.tmp 1)), []⟩,
     ⟨1, some 6, none, .op .reads (oLen .slice (.tmp 5)), []⟩,
     ⟨2, some 7, none, .op .quiet (oMv (.val (.int .i64 0))), []⟩])
   (.block 0
    (.loop
     (.seq
      (.ops [⟨0, some 8, none, .op .quiet (oArith .lss (.tmp 7) (.tmp 6)), []⟩])
      (.seq
       (.cond (.tmp 8)
        (.skip)
        (.exit 0))
       (.seq
        (.block 1
         (.seq
          (.ops [⟨0, some 9, none, .op .quiet (oIdxS 1 (.tmp 5) (.tmp 7)), []⟩,
            ⟨1, some 10, none, .op .reads (oLoad (.tmp 9)), []⟩,
            ⟨2, some 4, none, .op .quiet (oMv (.tmp 10)), []⟩])
          (.seq
           (.ops [⟨0, some 11, none, .op .quiet (oMv (.tmp 0)), []⟩,
             ⟨1, some 12, none, .op .quiet (oMv (.tmp 4)), []⟩,
             ⟨2, some 13, none, .call (.tmp 11) [(.tmp 12)], []⟩,
             ⟨3, some 14, none, .op .quiet (oNot (.tmp 13)), []⟩])
           (.cond (.tmp 14)
            (.ret)
            (.skip)))))
        (.ops [⟨0, some 15, none, .op .quiet (oArith .add (.tmp 7) (.val (.int .i64 1))), []⟩,
          ⟨1, some 7, none, .op .quiet (oMv (.tmp 15)), []⟩])))))))⟩
/-- tangram/bucket.ranks -/
noncomputable def a300 : AF := ⟨[.tmp 2],
 (.seq
   (.ops [⟨0, some 2, none, .op .quiet (oMv (.val (.slice none 0 0))), []⟩])
   (.seq
    (.ops [⟨0, some 3, none, .op .quiet (oMv (.val (.int .i64 0))), []⟩])
    (.seq
     (.seq
      (.ops [⟨0, some 13, none, .op .quiet (oMv (.tmp 0)), []⟩,
        ⟨1, some 14, none, .op .reads (oLen .slice (.tmp 13)), []⟩,
        ⟨2, some 15, none, .op .quiet (oMv (.val (.int .i64 0))), []⟩])
      (.block 0
       (.loop
        (.seq
         (.ops [⟨0, some 16, none, .op .quiet (oArith .lss (.tmp 15) (.tmp 14)), []⟩])
         (.seq
          (.cond (.tmp 16)
           (.skip)
           (.exit 0))
          (.seq
           (.block 1
            (.seq
             (.ops [⟨0, some 17, none, .op .quiet (oIdxS 1 (.tmp 13) (.tmp 15)), []⟩,
               ⟨1, some 18, none, .op .reads (oLoad (.tmp 17)), []⟩,
               ⟨2, some 5, none, .op .quiet (oMv (.tmp 18)), []⟩])
             (.ops [⟨0, some 19, none, .op .quiet (oMv (.tmp 3)), []⟩,
               ⟨1, some 20, none, .op .quiet (oMv (.tmp 5)), []⟩,
               ⟨2, some 21, none, .op .quiet (oMax (.tmp 19) [(.tmp 20)]), []⟩,
               ⟨3, some 3, none, .op .quiet (oMv (.tmp 21)), []⟩])))
           (.ops [⟨0, some 22, none, .op .quiet (oArith .add (.tmp 15) (.val (.int .i64 1))), []⟩,
             ⟨1, some 15, none, .op .quiet (oMv (.tmp 22)), []⟩])))))))
     (.seq
      (.seq
       (.ops [⟨0, some 23, none, .op .quiet (oMv (.tmp 0)), []⟩,
         ⟨1, some 24, none, .op .reads (oLen .slice (.tmp 23)), []⟩,
         ⟨2, some 25, none, .op .quiet (oArith .eql (.tmp 24) (.val (.int .i64 0))), []⟩])
       (.cond (.tmp 25)
        (.seq
         (.ops [⟨0, some 2, none, .op .quiet (oMv (.val (.slice none 0 0))), []⟩])
         (.ret))
        (.skip)))
      (.seq
       (.ops [⟨0, some 26, none, .op .quiet (oMv (.tmp 3)), []⟩,
         ⟨1, some 27, none, .op .quiet (oArith .add (.tmp 26) (.val (.int .i64 2))), []⟩,
         ⟨2, some 28, none, .op .quiet (oMkSlice 1 8 [(.int .i64 0)] (.tmp 27) (.tmp 27)), []⟩,
         ⟨3, some 6, none, .op .quiet (oMv (.tmp 28)), []⟩])
       (.seq
        (.seq
         (.ops [⟨0, some 29, none, .op .quiet (oMv (.tmp 0)), []⟩,
           ⟨1, some 30, none, .op .reads (oLen .slice (.tmp 29)), []⟩,
           ⟨2, some 31, none, .op .quiet (oMv (.val (.int .i64 0))), []⟩])
         (.block 2
          (.loop
           (.seq
            (.ops [⟨0, some 32, none, .op .quiet (oArith .lss (.tmp 31) (.tmp 30)), []⟩])
            (.seq
             (.cond (.tmp 32)
              (.skip)
              (.exit 2))
             (.seq
              (.block 3
               (.seq
                (.ops [⟨0, some 33, none, .op .quiet (oIdxS 1 (.tmp 29) (.tmp 31)), []⟩,
                  ⟨1, some 34, none, .op .reads (oLoad (.tmp 33)), []⟩,
                  ⟨2, some 8, none, .op .quiet (oMv (.tmp 34)), []⟩])
                (.ops [⟨0, some 35, none, .op .quiet (oMv (.tmp 6)), []⟩,
                  ⟨1, some 36, none, .op .quiet (oMv (.tmp 8)), []⟩,
                  ⟨2, some 37, none, .op .quiet (oArith .add (.tmp 36) (.val (.int .i64 1))), []⟩,
                  ⟨3, some 38, none, .op .quiet (oIdxS 1 (.tmp 35) (.tmp 37)), []⟩,
                  ⟨4, some 39, none, .op .reads (oLoad (.tmp 38)), []⟩,
                  ⟨5, some 40, none, .op .quiet (oArith .add (.tmp 39) (.val (.int .i64 1))), []⟩,
                  ⟨6, some 41, none, .op .quiet (oIdxS 1 (.tmp 35) (.tmp 37)), []⟩,
                  ⟨7, none, none, .op .hard (oStore 1 (.tmp 41) (.tmp 40)), []⟩])))
              (.ops [⟨0, some 42, none, .op .quiet (oArith .add (.tmp 31) (.val (.int .i64 1))), []⟩,
                ⟨1, some 31, none, .op .quiet (oMv (.tmp 42)), []⟩])))))))
        (.seq
         (.seq
          (.ops [⟨0, some 43, none, .op .quiet (oMv (.tmp 3)), []⟩,
            ⟨1, some 44, none, .op .quiet (oMv (.val (.int .i64 0))), []⟩])
          (.block 4
           (.loop
            (.seq
             (.ops [⟨0, some 45, none, .op .quiet (oArith .lss (.tmp 44) (.tmp 43)), []⟩])
             (.seq
              (.cond (.tmp 45)
               (.skip)
               (.exit 4))
              (.seq
               (.block 5
                (.seq
                 (.ops [⟨0, some 46, none, .op .quiet (oMv (.tmp 44)), []⟩,
                   ⟨1, some 9, none, .op .quiet (oMv (.tmp 46)), []⟩])
                 (.drawn [⟨0, some 47, none, .op .quiet (oMv (.tmp 6)), []⟩,
                   ⟨1, some 48, none, .op .quiet (oMv (.tmp 9)), []⟩,
                   ⟨2, some 49, none, .op .quiet (oArith .add (.tmp 48) (.val (.int .i64 1))), []⟩,
                   ⟨3, some 50, none, .op .quiet (oIdxS 1 (.tmp 47) (.tmp 49)), []⟩,
                   ⟨4, some 51, none, .op .reads (oLoad (.tmp 50)), []⟩,
                   ⟨5, some 52, none, .op .quiet (oMv (.tmp 6)), []⟩,
                   ⟨6, some 53, none, .op .quiet (oMv (.tmp 9)), []⟩,
                   ⟨7, some 54, none, .op .quiet (oIdxS 1 (.tmp 52) (.tmp 53)), []⟩,
                   ⟨8, some 55, none, .op .reads (oLoad (.tmp 54)), []⟩,
                   ⟨9, some 56, none, .op .quiet (oArith .add (.tmp 51) (.tmp 55)), []⟩,
                   ⟨10, some 57, none, .op .quiet (oIdxS 1 (.tmp 47) (.tmp 49)), []⟩,
                   ⟨11, none, none, .op .hard (oStore 1 (.tmp 57) (.tmp 56)), []⟩])))
               (.ops [⟨0, some 58, none, .op .quiet (oArith .add (.tmp 44) (.val (.int .i64 1))), []⟩,
                 ⟨1, some 44, none, .op .quiet (oMv (.tmp 58)), []⟩])))))))
         (.seq
          (.ops [⟨0, some 59, none, .op .quiet (oMv (.tmp 0)), []⟩,
            ⟨1, some 60, none, .op .reads (oLen .slice (.tmp 59)), []⟩,
            ⟨2, some 61, none, .op .quiet (oMkSlice 1 8 [(.int .i64 0)] (.tmp 60) (.tmp 60)), []⟩,
            ⟨3, some 10, none, .op .quiet (oMv (.tmp 61)), []⟩])
          (.seq
           (.seq
            (.ops [⟨0, some 62, none, .op .quiet (oMv (.tmp 0)), []⟩,
              ⟨1, some 63, none, .op .reads (oLen .slice (.tmp 62)), []⟩,
              ⟨2, some 64, none, .op .quiet (oMv (.val (.int .i64 0))), []⟩])
            (.block 6
             (.loop
              (.seq
               (.ops [⟨0, some 65, none, .op .quiet (oArith .lss (.tmp 64) (.tmp 63)), []⟩])
               (.seq
                (.cond (.tmp 65)
                 (.skip)
                 (.exit 6))
                (.seq
                 (.block 7
                  (.seq
                   (.ops [⟨0, some 66, none, .op .quiet (oMv (.tmp 64)), []⟩,
                     ⟨1, some 67, none, .op .quiet (oIdxS 1 (.tmp 62) (.tmp 64)), []⟩,
                     ⟨2, some 68, none, .op .reads (oLoad (.tmp 67)), []⟩,
                     ⟨3, some 11, none, .op .quiet (oMv (.tmp 66)), []⟩,
                     ⟨4, some 12, none, .op .quiet (oMv (.tmp 68)), []⟩])
                   (.seq
                    (.ops [⟨0, some 69, none, .op .quiet (oMv (.tmp 10)), []⟩,
                      ⟨1, some 70, none, .op .quiet (oMv (.tmp 11)), []⟩,
                      ⟨2, some 71, none, .op .quiet (oMv (.tmp 6)), []⟩,
                      ⟨3, some 72, none, .op .quiet (oMv (.tmp 12)), []⟩,
                      ⟨4, some 73, none, .op .quiet (oIdxS 1 (.tmp 71) (.tmp 72)), []⟩,
                      ⟨5, some 74, none, .op .reads (oLoad (.tmp 73)), []⟩,
                      ⟨6, some 75, none, .op .quiet (oIdxS 1 (.tmp 69) (.tmp 70)), []⟩,
                      ⟨7, none, none, .op .hard (oStore 1 (.tmp 75) (.tmp 74)), []⟩])
                    (.ops [⟨0, some 76, none, .op .quiet (oMv (.tmp 6)), []⟩,
                      ⟨1, some 77, none, .op .quiet (oMv (.tmp 12)), []⟩,
                      ⟨2, some 78, none, .op .quiet (oIdxS 1 (.tmp 76) (.tmp 77)), []⟩,
                      ⟨3, some 79, none, .op .reads (oLoad (.tmp 78)), []⟩,
                      ⟨4, some 80, none, .op .quiet (oArith .add (.tmp 79) (.val (.int .i64 1))), []⟩,
                      ⟨5, some 81, none, .op .quiet (oIdxS 1 (.tmp 76) (.tmp 77)), []⟩,
                      ⟨6, none, none, .op .hard (oStore 1 (.tmp 81) (.tmp 80)), []⟩]))))
                 (.ops [⟨0, some 82, none, .op .quiet (oArith .add (.tmp 64) (.val (.int .i64 1))), []⟩,
                   ⟨1, some 64, none, .op .quiet (oMv (.tmp 82)), []⟩])))))))
           (.seq
            (.ops [⟨0, some 83, none, .op .quiet (oMv (.tmp 10)), []⟩,
              ⟨1, some 2, none, .op .quiet (oMv (.tmp 83)), []⟩])
            (.ret)))))))))))⟩
/-- (*tangram/lr.test).constrain -/
noncomputable def a301 : AF := ⟨[.tmp 6],
 (.seq
   (.ops [⟨0, some 6, none, .op .quiet (oMv (.val (.bool false))), []⟩])
   (.seq
    (.ops [⟨0, some 10, none, .op .reads (oLoadN 2 (.val (.pointer (some ⟨0, 0, none⟩)))), []⟩,
      ⟨1, some 11, none, .op .reads (oLoadN 2 (.val (.pointer (some ⟨0, 0, none⟩)))), []⟩,
      ⟨2, some 12, none, .op .quiet (oBuild [(.int .i64 0), (.int .i64 0), (.int .i64 0), (.int .i64 0)] [(0, 2), (2, 2)] [(.tmp 10), (.tmp 11)]), []⟩,
      ⟨3, some 7, none, .op .quiet (oAlloc [(.int .i64 0), (.int .i64 0), (.int .i64 0), (.int .i64 0)]), []⟩,
      ⟨4, none, none, .op .hard (oStore 4 (.tmp 7) (.tmp 12)), []⟩])
    (.seq
     (.block 0
      (.loop
       (.seq
        (.seq
         (.drawn [⟨0, some 13, none, .op .quiet (oMv (.tmp 0)), []⟩,
           ⟨1, some 14, none, .op .quiet (oNilCheck (.tmp 13)), []⟩,
           ⟨2, some 15, none, .op .quiet (oFieldAddr 10 (.tmp 14)), []⟩,
           ⟨3, some 16, none, .op .reads (oLoad (.tmp 15)), []⟩,
           ⟨4, some 17, none, .op .reads (oLen .slice (.tmp 16)), []⟩,
           ⟨5, some 18, none, .op .quiet (oMv (.tmp 0)), []⟩,
           ⟨6, some 19, none, .op .quiet (oNilCheck (.tmp 18)), []⟩,
           ⟨7, some 20, none, .op .quiet (oFieldAddr 13 (.tmp 19)), []⟩,
           ⟨8, some 21, none, .op .reads (oLoad (.tmp 20)), []⟩,
           ⟨9, some 22, none, .op .quiet (oMv (.tmp 1)), []⟩,
           ⟨10, some 23, none, .op .quiet (oIdxS 1 (.tmp 21) (.tmp 22)), []⟩,
           ⟨11, some 24, none, .op .reads (oLoad (.tmp 23)), []⟩,
           ⟨12, some 25, none, .op .quiet (oArith .gtr (.tmp 17) (.tmp 24)), []⟩])
         (.cond (.tmp 25)
          (.skip)
          (.exit 0)))
        (.block 1
         (.seq
          (.ops [⟨0, some 26, none, .op .quiet (oMv (.tmp 0)), []⟩,
            ⟨1, some 27, none, .callF 303 [(.tmp 26)], []⟩,
            ⟨2, some 8, none, .op .quiet (oAlloc [(.int .i64 0), (.int .i64 0), (.int .i64 0), (.int .i64 0)]), []⟩,
            ⟨3, none, none, .op .hard (oStore 4 (.tmp 8) (.tmp 27)), []⟩])
          (.seq
           (.seq
            (.ops [⟨0, some 28, none, .op .quiet (oFieldAddr 0 (.tmp 8)), []⟩,
              ⟨1, some 29, none, .op .reads (oLoadN 2 (.tmp 28)), []⟩,
              ⟨2, some 30, none, .op .reads (oLoadN 2 (.val (.pointer (some ⟨0, 0, none⟩)))), []⟩,
              ⟨3, some 31, none, .op .quiet (oEq true (.ints 2) (.tmp 29) (.tmp 30)), []⟩])
            (.cond (.tmp 31)
             (.ops [⟨0, some 32, none, .op .quiet (oFieldAddr 2 (.tmp 8)), []⟩,
               ⟨1, some 33, none, .op .reads (oLoadN 2 (.tmp 32)), []⟩,
               ⟨2, some 34, none, .op .quiet (oFieldAddr 0 (.tmp 8)), []⟩,
               ⟨3, some 35, none, .op .reads (oLoadN 2 (.tmp 34)), []⟩,
               ⟨4, some 36, none, .op .quiet (oFieldAddr 0 (.tmp 8)), []⟩,
               ⟨5, none, none, .op .hard (oStore 2 (.tmp 36) (.tmp 33)), []⟩,
               ⟨6, some 37, none, .op .quiet (oFieldAddr 2 (.tmp 8)), []⟩,
               ⟨7, none, none, .op .hard (oStore 2 (.tmp 37) (.tmp 35)), []⟩])
             (.skip)))
           (.seq
            (.seq
             (.ops [⟨0, some 38, none, .op .quiet (oFieldAddr 0 (.tmp 8)), []⟩,
               ⟨1, some 39, none, .op .reads (oLoadN 2 (.tmp 38)), []⟩,
               ⟨2, some 40, none, .op .reads (oLoadN 2 (.val (.pointer (some ⟨0, 0, none⟩)))), []⟩,
               ⟨3, some 41, none, .op .quiet (oEq true (.ints 2) (.tmp 39) (.tmp 40)), []⟩])
             (.cond (.tmp 41)
              (.seq
               (.ops [⟨0, some 6, none, .op .quiet (oMv (.val (.bool false))), []⟩])
               (.ret))
              (.skip)))
            (.seq
             (.drawn [⟨0, some 42, none, .op .quiet (oMv (.tmp 0)), []⟩,
               ⟨1, some 43, none, .op .quiet (oNilCheck (.tmp 42)), []⟩,
               ⟨2, some 44, none, .op .quiet (oFieldAddr 6 (.tmp 43)), []⟩,
               ⟨3, some 45, none, .op .quiet (oFieldAddr 0 (.tmp 44)), []⟩,
               ⟨4, some 46, none, .op .reads (oLoad (.tmp 45)), []⟩,
               ⟨5, some 47, none, .op .quiet (oFieldAddr 2 (.tmp 8)), []⟩,
               ⟨6, some 48, none, .op .quiet (oFieldAddr 0 (.tmp 47)), []⟩,
               ⟨7, some 49, none, .op .reads (oLoad (.tmp 48)), []⟩,
               ⟨8, some 50, none, .op .quiet (oIdxS 1 (.tmp 46) (.tmp 49)), []⟩,
               ⟨9, some 51, none, .op .reads (oLoad (.tmp 50)), []⟩,
               ⟨10, some 52, none, .op .quiet (oMv (.tmp 0)), []⟩,
               ⟨11, some 53, none, .op .quiet (oNilCheck (.tmp 52)), []⟩,
               ⟨12, some 54, none, .op .quiet (oFieldAddr 6 (.tmp 53)), []⟩,
               ⟨13, some 55, none, .op .quiet (oFieldAddr 0 (.tmp 54)), []⟩,
               ⟨14, some 56, none, .op .reads (oLoad (.tmp 55)), []⟩,
               ⟨15, some 57, none, .op .quiet (oMv (.tmp 2)), []⟩,
               ⟨16, some 58, none, .op .quiet (oIdxS 1 (.tmp 56) (.tmp 57)), []⟩,
               ⟨17, some 59, none, .op .reads (oLoad (.tmp 58)), []⟩,
               ⟨18, some 60, none, .op .quiet (oArith .gtr (.tmp 51) (.tmp 59)), []⟩])
             (.cond (.tmp 60)
              (.ops [⟨0, some 61, none, .op .quiet (oMv (.tmp 0)), []⟩,
                ⟨1, some 62, none, .op .quiet (oFieldAddr 2 (.tmp 7)), []⟩,
                ⟨2, some 63, none, .op .reads (oLoadN 2 (.tmp 62)), []⟩,
                ⟨3, some 64, none, .op .quiet (oFieldAddr 2 (.tmp 8)), []⟩,
                ⟨4, some 65, none, .op .reads (oLoadN 2 (.tmp 64)), []⟩,
                ⟨5, some 66, none, .callF 333 [(.tmp 61), (.tmp 63), (.tmp 65)], []⟩,
                ⟨6, some 67, none, .op .quiet (oFieldAddr 2 (.tmp 7)), []⟩,
                ⟨7, none, none, .op .hard (oStore 2 (.tmp 67) (.tmp 66)), []⟩])
              (.drawn [⟨0, some 68, none, .op .quiet (oMv (.tmp 0)), []⟩,
                ⟨1, some 69, none, .op .quiet (oNilCheck (.tmp 68)), []⟩,
                ⟨2, some 70, none, .op .quiet (oFieldAddr 11 (.tmp 69)), []⟩,
                ⟨3, some 71, none, .op .reads (oLoad (.tmp 70)), []⟩,
                ⟨4, some 72, none, .op .quiet (oFieldAddr 2 (.tmp 8)), []⟩,
                ⟨5, some 73, none, .op .quiet (oFieldAddr 0 (.tmp 72)), []⟩,
                ⟨6, some 74, none, .op .reads (oLoad (.tmp 73)), []⟩,
                ⟨7, some 75, none, .op .quiet (oMv (.tmp 0)), []⟩,
                ⟨8, some 76, none, .op .quiet (oNilCheck (.tmp 75)), []⟩,
                ⟨9, some 77, none, .op .quiet (oFieldAddr 14 (.tmp 76)), []⟩,
                ⟨10, some 78, none, .op .reads (oLoad (.tmp 77)), []⟩,
                ⟨11, some 79, none, .op .quiet (oMv (.tmp 2)), []⟩,
                ⟨12, some 80, none, .op .quiet (oIdxS 1 (.tmp 78) (.tmp 79)), []⟩,
                ⟨13, some 81, none, .op .reads (oLoad (.tmp 80)), []⟩,
                ⟨14, some 82, none, .op .quiet (oIdxS 1 (.tmp 71) (.tmp 74)), []⟩,
                ⟨15, none, none, .op .hard (oStore 1 (.tmp 82) (.tmp 81)), []⟩]))))))))))
     (.seq
      (.skip)
      (.seq
       (.block 2
        (.loop
         (.seq
          (.seq
           (.ops [⟨0, some 83, none, .op .quiet (oMv (.tmp 0)), []⟩,
             ⟨1, some 84, none, .op .quiet (oNilCheck (.tmp 83)), []⟩,
             ⟨2, some 85, none, .op .quiet (oFieldAddr 10 (.tmp 84)), []⟩,
             ⟨3, some 86, none, .op .reads (oLoad (.tmp 85)), []⟩,
             ⟨4, some 87, none, .op .reads (oLen .slice (.tmp 86)), []⟩,
             ⟨5, some 88, none, .op .quiet (oArith .gtr (.tmp 87) (.val (.int .i64 0))), []⟩])
           (.cond (.tmp 88)
            (.skip)
            (.exit 2)))
          (.block 3
           (.seq
            (.drawn [⟨0, some 89, none, .op .quiet (oMv (.tmp 0)), []⟩,
              ⟨1, some 90, none, .op .quiet (oNilCheck (.tmp 89)), []⟩,
              ⟨2, some 91, none, .op .quiet (oFieldAddr 10 (.tmp 90)), []⟩,
              ⟨3, some 92, none, .op .reads (oLoad (.tmp 91)), []⟩,
              ⟨4, some 93, none, .op .quiet (oMv (.tmp 0)), []⟩,
              ⟨5, some 94, none, .op .quiet (oNilCheck (.tmp 93)), []⟩,
              ⟨6, some 95, none, .op .quiet (oFieldAddr 10 (.tmp 94)), []⟩,
              ⟨7, some 96, none, .op .reads (oLoad (.tmp 95)), []⟩,
              ⟨8, some 97, none, .op .reads (oLen .slice (.tmp 96)), []⟩,
              ⟨9, some 98, none, .op .quiet (oArith .sub (.tmp 97) (.val (.int .i64 1))), []⟩,
              ⟨10, some 99, none, .op .quiet (oIdxS 4 (.tmp 92) (.tmp 98)), []⟩,
              ⟨11, some 100, none, .op .reads (oLoadN 4 (.tmp 99)), []⟩,
              ⟨12, some 9, none, .op .quiet (oAlloc [(.int .i64 0), (.int .i64 0), (.int .i64 0), (.int .i64 0)]), []⟩,
              ⟨13, none, none, .op .hard (oStore 4 (.tmp 9) (.tmp 100)), []⟩])
            (.seq
             (.seq
              (.ops [⟨0, some 101, none, .op .quiet (oMv (.tmp 0)), []⟩,
                ⟨1, some 102, none, .op .quiet (oFieldAddr 0 (.tmp 9)), []⟩,
                ⟨2, some 103, none, .op .reads (oLoadN 2 (.tmp 102)), []⟩,
                ⟨3, some 104, none, .op .quiet (oMv (.tmp 1)), []⟩,
                ⟨4, some 105, none, .callF 334 [(.tmp 101), (.tmp 103), (.tmp 104)], []⟩,
                ⟨5, some 106, none, .op .quiet (oNot (.tmp 105)), []⟩,
                ⟨6, some 107, none, .op .quiet (oMv (.tmp 106)), []⟩,
                ⟨7, some 108, some (107, true), .op .quiet (oMv (.tmp 0)), []⟩,
                ⟨8, some 109, some (107, true), .op .quiet (oFieldAddr 2 (.tmp 9)), []⟩,
                ⟨9, some 110, some (107, true), .op .reads (oLoadN 2 (.tmp 109)), []⟩,
                ⟨10, some 111, some (107, true), .op .quiet (oMv (.tmp 1)), []⟩,
                ⟨11, some 112, some (107, true), .callF 334 [(.tmp 108), (.tmp 110), (.tmp 111)], []⟩,
                ⟨12, some 113, some (107, true), .op .quiet (oNot (.tmp 112)), []⟩,
                ⟨13, some 114, none, .op .quiet (oPick (.tmp 107) (.tmp 113) (.val (.bool false))), []⟩])
              (.cond (.tmp 114)
               (.exit 2)
               (.skip)))
             (.seq
              (.ops [⟨0, some 115, none, .op .quiet (oMv (.tmp 0)), []⟩,
                ⟨1, some 116, none, .callF 303 [(.tmp 115)], []⟩])
              (.seq
               (.seq
                (.ops [⟨0, some 117, none, .op .quiet (oMv (.tmp 0)), []⟩,
                  ⟨1, some 118, none, .op .quiet (oFieldAddr 2 (.tmp 9)), []⟩,
                  ⟨2, some 119, none, .op .reads (oLoadN 2 (.tmp 118)), []⟩,
                  ⟨3, some 120, none, .op .quiet (oMv (.tmp 1)), []⟩,
                  ⟨4, some 121, none, .callF 334 [(.tmp 117), (.tmp 119), (.tmp 120)], []⟩])
                (.cond (.tmp 121)
                 (.ops [⟨0, some 122, none, .op .quiet (oFieldAddr 2 (.tmp 9)), []⟩,
                   ⟨1, some 123, none, .op .reads (oLoadN 2 (.tmp 122)), []⟩,
                   ⟨2, some 124, none, .op .quiet (oFieldAddr 0 (.tmp 9)), []⟩,
                   ⟨3, some 125, none, .op .reads (oLoadN 2 (.tmp 124)), []⟩,
                   ⟨4, some 126, none, .op .quiet (oFieldAddr 0 (.tmp 9)), []⟩,
                   ⟨5, none, none, .op .hard (oStore 2 (.tmp 126) (.tmp 123)), []⟩,
                   ⟨6, some 127, none, .op .quiet (oFieldAddr 2 (.tmp 9)), []⟩,
                   ⟨7, none, none, .op .hard (oStore 2 (.tmp 127) (.tmp 125)), []⟩])
                 (.skip)))
               (.seq
                (.seq
                 (.ops [⟨0, some 128, none, .op .quiet (oMv (.tmp 0)), []⟩,
                   ⟨1, some 129, none, .op .quiet (oFieldAddr 2 (.tmp 9)), []⟩,
                   ⟨2, some 130, none, .op .reads (oLoadN 2 (.tmp 129)), []⟩,
                   ⟨3, some 131, none, .op .quiet (oMv (.tmp 1)), []⟩,
                   ⟨4, some 132, none, .callF 334 [(.tmp 128), (.tmp 130), (.tmp 131)], []⟩])
                 (.cond (.tmp 132)
                  (.seq
                   (.ops [⟨0, some 6, none, .op .quiet (oMv (.val (.bool false))), []⟩])
                   (.ret))
                  (.skip)))
                (.seq
                 (.ops [⟨0, some 133, none, .op .quiet (oMv (.tmp 0)), []⟩,
                   ⟨1, some 134, none, .op .quiet (oFieldAddr 2 (.tmp 7)), []⟩,
                   ⟨2, some 135, none, .op .reads (oLoadN 2 (.tmp 134)), []⟩,
                   ⟨3, some 136, none, .op .quiet (oFieldAddr 2 (.tmp 9)), []⟩,
                   ⟨4, some 137, none, .op .reads (oLoadN 2 (.tmp 136)), []⟩,
                   ⟨5, some 138, none, .callF 333 [(.tmp 133), (.tmp 135), (.tmp 137)], []⟩,
                   ⟨6, some 139, none, .op .quiet (oFieldAddr 2 (.tmp 7)), []⟩,
                   ⟨7, none, none, .op .hard (oStore 2 (.tmp 139) (.tmp 138)), []⟩])
                 (.ops [⟨0, some 140, none, .op .quiet (oMv (.tmp 0)), []⟩,
                   ⟨1, some 141, none, .op .quiet (oFieldAddr 0 (.tmp 7)), []⟩,
                   ⟨2, some 142, none, .op .reads (oLoadN 2 (.tmp 141)), []⟩,
                   ⟨3, some 143, none, .op .quiet (oFieldAddr 0 (.tmp 9)), []⟩,
                   ⟨4, some 144, none, .op .reads (oLoadN 2 (.tmp 143)), []⟩,
                   ⟨5, some 145, none, .callF 333 [(.tmp 140), (.tmp 142), (.tmp 144)], []⟩,
                   ⟨6, some 146, none, .op .quiet (oFieldAddr 0 (.tmp 7)), []⟩,
                   ⟨7, none, none, .op .hard (oStore 2 (.tmp 146) (.tmp 145)), []⟩])))))))))))
       (.seq
        (.seq
         (.ops [⟨0, some 147, none, .op .reads (oLoadN 4 (.tmp 7)), []⟩,
           ⟨1, some 148, none, .op .reads (oLoadN 2 (.val (.pointer (some ⟨0, 0, none⟩)))), []⟩,
           ⟨2, some 149, none, .op .reads (oLoadN 2 (.val (.pointer (some ⟨0, 0, none⟩)))), []⟩,
           ⟨3, some 150, none, .op .quiet (oBuild [(.int .i64 0), (.int .i64 0), (.int .i64 0), (.int .i64 0)] [(0, 2), (2, 2)] [(.tmp 148), (.tmp 149)]), []⟩,
           ⟨4, some 151, none, .op .quiet (oEq true (.ints 4) (.tmp 147) (.tmp 150)), []⟩])
         (.cond (.tmp 151)
          (.drawn [⟨0, some 152, none, .op .quiet (oMv (.tmp 0)), []⟩,
            ⟨1, some 153, none, .op .quiet (oMv (.tmp 0)), []⟩,
            ⟨2, some 154, none, .op .quiet (oNilCheck (.tmp 153)), []⟩,
            ⟨3, some 155, none, .op .quiet (oFieldAddr 10 (.tmp 154)), []⟩,
            ⟨4, some 156, none, .op .reads (oLoad (.tmp 155)), []⟩,
            ⟨5, some 157, none, .op .reads (oLoadN 4 (.tmp 7)), []⟩,
            ⟨6, some 158, none, .op .quiet (oBuildSlice 4 1 [(.int .i64 0), (.int .i64 0), (.int .i64 0), (.int .i64 0)] [(0, 4)] [(.tmp 157)]), []⟩,
            ⟨7, some 159, none, .op .hard (oAppend 4 32 (.tmp 156) (.tmp 158)), []⟩,
            ⟨8, some 160, none, .op .quiet (oNilCheck (.tmp 152)), []⟩,
            ⟨9, some 161, none, .op .quiet (oFieldAddr 10 (.tmp 160)), []⟩,
            ⟨10, none, none, .op .hard (oStore 1 (.tmp 161) (.tmp 159)), []⟩])
          (.skip)))
        (.seq
         (.ops [⟨0, some 6, none, .op .quiet (oMv (.val (.bool true))), []⟩])
         (.ret))))))))⟩
/-- (*tangram/lr.test).least -/
noncomputable def a302 : AF := ⟨[.tmp 4],
 (.seq
   (.ops [⟨0, some 3, none, .op .quiet (oBox (.tmp 1)), []⟩,
     ⟨1, some 4, none, .op .quiet (oMv (.val (.int .i64 0))), []⟩])
   (.seq
    (.block 0
     (.seq
      (.ops [⟨0, some 6, none, .op .quiet (oFieldAddr 0 (.tmp 3)), []⟩,
        ⟨1, some 7, none, .op .reads (oLoadN 2 (.tmp 6)), []⟩,
        ⟨2, some 8, none, .op .reads (oLoadN 2 (.val (.pointer (some ⟨0, 0, none⟩)))), []⟩,
        ⟨3, some 9, none, .op .quiet (oEq false (.ints 2) (.tmp 7) (.tmp 8)), []⟩,
        ⟨4, some 5, none, .op .quiet (oMv (.tmp 9)), []⟩])
      (.cond (.tmp 5)
       (.seq
        (.drawn [⟨0, some 10, none, .op .quiet (oMv (.tmp 0)), []⟩,
          ⟨1, some 11, none, .op .quiet (oNilCheck (.tmp 10)), []⟩,
          ⟨2, some 12, none, .op .quiet (oFieldAddr 6 (.tmp 11)), []⟩,
          ⟨3, some 13, none, .op .quiet (oFieldAddr 0 (.tmp 12)), []⟩,
          ⟨4, some 14, none, .op .reads (oLoad (.tmp 13)), []⟩,
          ⟨5, some 15, none, .op .quiet (oFieldAddr 2 (.tmp 3)), []⟩,
          ⟨6, some 16, none, .op .quiet (oFieldAddr 0 (.tmp 15)), []⟩,
          ⟨7, some 17, none, .op .reads (oLoad (.tmp 16)), []⟩,
          ⟨8, some 18, none, .op .quiet (oIdxS 1 (.tmp 14) (.tmp 17)), []⟩,
          ⟨9, some 19, none, .op .reads (oLoad (.tmp 18)), []⟩,
          ⟨10, some 4, none, .op .quiet (oMv (.tmp 19)), []⟩])
        (.ret))
       (.seq
        (.ops [⟨0, some 21, none, .op .quiet (oFieldAddr 2 (.tmp 3)), []⟩,
          ⟨1, some 22, none, .op .reads (oLoadN 2 (.tmp 21)), []⟩,
          ⟨2, some 23, none, .op .reads (oLoadN 2 (.val (.pointer (some ⟨0, 0, none⟩)))), []⟩,
          ⟨3, some 24, none, .op .quiet (oEq false (.ints 2) (.tmp 22) (.tmp 23)), []⟩,
          ⟨4, some 20, none, .op .quiet (oMv (.tmp 24)), []⟩])
        (.cond (.tmp 20)
         (.seq
          (.drawn [⟨0, some 25, none, .op .quiet (oMv (.tmp 0)), []⟩,
            ⟨1, some 26, none, .op .quiet (oNilCheck (.tmp 25)), []⟩,
            ⟨2, some 27, none, .op .quiet (oFieldAddr 6 (.tmp 26)), []⟩,
            ⟨3, some 28, none, .op .quiet (oFieldAddr 0 (.tmp 27)), []⟩,
            ⟨4, some 29, none, .op .reads (oLoad (.tmp 28)), []⟩,
            ⟨5, some 30, none, .op .quiet (oFieldAddr 0 (.tmp 3)), []⟩,
            ⟨6, some 31, none, .op .quiet (oFieldAddr 0 (.tmp 30)), []⟩,
            ⟨7, some 32, none, .op .reads (oLoad (.tmp 31)), []⟩,
            ⟨8, some 33, none, .op .quiet (oIdxS 1 (.tmp 29) (.tmp 32)), []⟩,
            ⟨9, some 34, none, .op .reads (oLoad (.tmp 33)), []⟩,
            ⟨10, some 4, none, .op .quiet (oMv (.tmp 34)), []⟩])
          (.ret))
         (.skip))))))
    (.seq
     (.drawn [⟨0, some 35, none, .op .quiet (oMv (.tmp 0)), []⟩,
       ⟨1, some 36, none, .op .quiet (oNilCheck (.tmp 35)), []⟩,
       ⟨2, some 37, none, .op .quiet (oFieldAddr 6 (.tmp 36)), []⟩,
       ⟨3, some 38, none, .op .quiet (oFieldAddr 0 (.tmp 37)), []⟩,
       ⟨4, some 39, none, .op .reads (oLoad (.tmp 38)), []⟩,
       ⟨5, some 40, none, .op .quiet (oFieldAddr 0 (.tmp 3)), []⟩,
       ⟨6, some 41, none, .op .quiet (oFieldAddr 0 (.tmp 40)), []⟩,
       ⟨7, some 42, none, .op .reads (oLoad (.tmp 41)), []⟩,
       ⟨8, some 43, none, .op .quiet (oIdxS 1 (.tmp 39) (.tmp 42)), []⟩,
       ⟨9, some 44, none, .op .reads (oLoad (.tmp 43)), []⟩,
       ⟨10, some 45, none, .op .quiet (oMv (.tmp 0)), []⟩,
       ⟨11, some 46, none, .op .quiet (oNilCheck (.tmp 45)), []⟩,
       ⟨12, some 47, none, .op .quiet (oFieldAddr 6 (.tmp 46)), []⟩,
       ⟨13, some 48, none, .op .quiet (oFieldAddr 0 (.tmp 47)), []⟩,
       ⟨14, some 49, none, .op .reads (oLoad (.tmp 48)), []⟩,
       ⟨15, some 50, none, .op .quiet (oFieldAddr 2 (.tmp 3)), []⟩,
       ⟨16, some 51, none, .op .quiet (oFieldAddr 0 (.tmp 50)), []⟩,
       ⟨17, some 52, none, .op .reads (oLoad (.tmp 51)), []⟩,
       ⟨18, some 53, none, .op .quiet (oIdxS 1 (.tmp 49) (.tmp 52)), []⟩,
       ⟨19, some 54, none, .op .reads (oLoad (.tmp 53)), []⟩,
       ⟨20, some 55, none, .op .quiet (oMin (.tmp 44) [(.tmp 54)]), []⟩,
       ⟨21, some 4, none, .op .quiet (oMv (.tmp 55)), []⟩])
     (.ret))))⟩
/-- (*tangram/lr.test).pop -/
noncomputable def a303 : AF := ⟨[.cellN 2 4],
 (.seq
   (.ops [⟨0, some 2, none, .op .quiet (oAlloc [(.int .i64 0), (.int .i64 0), (.int .i64 0), (.int .i64 0)]), []⟩])
   (.seq
    (.drawn [⟨0, some 4, none, .op .quiet (oMv (.tmp 0)), []⟩,
      ⟨1, some 5, none, .op .quiet (oNilCheck (.tmp 4)), []⟩,
      ⟨2, some 6, none, .op .quiet (oFieldAddr 10 (.tmp 5)), []⟩,
      ⟨3, some 7, none, .op .reads (oLoad (.tmp 6)), []⟩,
      ⟨4, some 8, none, .op .quiet (oMv (.tmp 0)), []⟩,
      ⟨5, some 9, none, .op .quiet (oNilCheck (.tmp 8)), []⟩,
      ⟨6, some 10, none, .op .quiet (oFieldAddr 10 (.tmp 9)), []⟩,
      ⟨7, some 11, none, .op .reads (oLoad (.tmp 10)), []⟩,
      ⟨8, some 12, none, .op .reads (oLen .slice (.tmp 11)), []⟩,
      ⟨9, some 13, none, .op .quiet (oArith .sub (.tmp 12) (.val (.int .i64 1))), []⟩,
      ⟨10, some 14, none, .op .quiet (oIdxS 4 (.tmp 7) (.tmp 13)), []⟩,
      ⟨11, some 15, none, .op .reads (oLoadN 4 (.tmp 14)), []⟩,
      ⟨12, some 3, none, .op .quiet (oAlloc [(.int .i64 0), (.int .i64 0), (.int .i64 0), (.int .i64 0)]), []⟩,
      ⟨13, none, none, .op .hard (oStore 4 (.tmp 3) (.tmp 15)), []⟩])
    (.seq
     (.drawn [⟨0, some 16, none, .op .quiet (oMv (.tmp 0)), []⟩,
       ⟨1, some 17, none, .op .quiet (oMv (.tmp 0)), []⟩,
       ⟨2, some 18, none, .op .quiet (oNilCheck (.tmp 17)), []⟩,
       ⟨3, some 19, none, .op .quiet (oFieldAddr 10 (.tmp 18)), []⟩,
       ⟨4, some 20, none, .op .reads (oLoad (.tmp 19)), []⟩,
       ⟨5, some 21, none, .op .quiet (oMv (.tmp 0)), []⟩,
       ⟨6, some 22, none, .op .quiet (oNilCheck (.tmp 21)), []⟩,
       ⟨7, some 23, none, .op .quiet (oFieldAddr 10 (.tmp 22)), []⟩,
       ⟨8, some 24, none, .op .reads (oLoad (.tmp 23)), []⟩,
       ⟨9, some 25, none, .op .reads (oLen .slice (.tmp 24)), []⟩,
       ⟨10, some 26, none, .op .quiet (oArith .sub (.tmp 25) (.val (.int .i64 1))), []⟩,
       ⟨11, some 27, none, .op .quiet (oSlice 4 (.tmp 20) none (some (.tmp 26)) none), []⟩,
       ⟨12, some 28, none, .op .quiet (oNilCheck (.tmp 16)), []⟩,
       ⟨13, some 29, none, .op .quiet (oFieldAddr 10 (.tmp 28)), []⟩,
       ⟨14, none, none, .op .hard (oStore 1 (.tmp 29) (.tmp 27)), []⟩])
     (.seq
      (.ops [⟨0, some 30, none, .op .reads (oLoadN 4 (.tmp 3)), []⟩,
        ⟨1, none, none, .op .hard (oStore 4 (.tmp 2) (.tmp 30)), []⟩])
      (.ret)))))⟩
/-- (*tangram/lr.test).trim -/
noncomputable def a304 : AF := ⟨[.cellN 8 2],
 (.seq
   (.ops [⟨0, some 5, none, .op .quiet (oBox (.tmp 1)), []⟩,
     ⟨1, some 6, none, .op .quiet (oBox (.tmp 2)), []⟩,
     ⟨2, some 8, none, .op .quiet (oAlloc [(.int .i64 0), (.int .i64 0)]), []⟩])
   (.seq
    (.seq
     (.ops [⟨0, some 11, none, .op .reads (oLoadN 2 (.tmp 5)), []⟩,
       ⟨1, some 12, none, .op .reads (oLoadN 2 (.val (.pointer (some ⟨0, 0, none⟩)))), []⟩,
       ⟨2, some 13, none, .op .quiet (oEq false (.ints 2) (.tmp 11) (.tmp 12)), []⟩])
     (.cond (.tmp 13)
      (.seq
       (.ops [⟨0, some 14, none, .op .reads (oLoadN 2 (.tmp 5)), []⟩,
         ⟨1, none, none, .op .hard (oStore 2 (.tmp 8) (.tmp 14)), []⟩])
       (.ret))
      (.skip)))
    (.seq
     (.block 0
      (.loop
       (.seq
        (.seq
         (.ops [⟨0, some 15, none, .op .quiet (oFieldAddr 1 (.tmp 5)), []⟩,
           ⟨1, some 16, none, .op .reads (oLoad (.tmp 15)), []⟩,
           ⟨2, some 17, none, .op .quiet (oArith .neq (.tmp 16) (.val (.int .i64 (-1)))), []⟩])
         (.cond (.tmp 17)
          (.skip)
          (.exit 0)))
        (.block 1
         (.seq
          (.seq
           (.ops [⟨0, some 19, none, .op .quiet (oMv (.tmp 0)), []⟩,
             ⟨1, some 20, none, .op .quiet (oFieldAddr 1 (.tmp 5)), []⟩,
             ⟨2, some 21, none, .op .reads (oLoad (.tmp 20)), []⟩,
             ⟨3, some 22, none, .callF 176 [(.tmp 19), (.tmp 21)], []⟩,
             ⟨4, some 18, none, .op .quiet (oMv (.tmp 22)), []⟩,
             ⟨5, some 23, none, .op .quiet (oExtract 0 (.tmp 18)), []⟩,
             ⟨6, some 24, none, .op .quiet (oExtract 1 (.tmp 18)), []⟩,
             ⟨7, some 9, none, .op .quiet (oMv (.tmp 23)), []⟩,
             ⟨8, some 10, none, .op .quiet (oMv (.tmp 24)), []⟩])
           (.seq
            (.ops [⟨0, some 25, none, .op .quiet (oMv (.tmp 10)), []⟩,
              ⟨1, some 26, none, .op .quiet (oMv (.tmp 3)), []⟩,
              ⟨2, some 27, none, .op .quiet (oArith .neq (.tmp 25) (.tmp 26)), []⟩])
            (.cond (.tmp 27)
             (.seq
              (.ops [⟨0, some 28, none, .op .reads (oLoadN 2 (.tmp 5)), []⟩,
                ⟨1, none, none, .op .hard (oStore 2 (.tmp 8) (.tmp 28)), []⟩])
              (.ret))
             (.skip))))
          (.seq
           (.seq
            (.ops [⟨0, some 29, none, .op .quiet (oFieldAddr 1 (.tmp 5)), []⟩,
              ⟨1, some 30, none, .op .reads (oLoad (.tmp 29)), []⟩,
              ⟨2, some 31, none, .op .quiet (oFieldAddr 0 (.tmp 5)), []⟩,
              ⟨3, some 32, none, .op .reads (oLoad (.tmp 31)), []⟩,
              ⟨4, some 33, none, .op .quiet (oArith .eql (.tmp 30) (.tmp 32)), []⟩])
            (.cond (.tmp 33)
             (.seq
              (.ops [⟨0, some 34, none, .op .quiet (oFieldAddr 1 (.tmp 5)), []⟩,
                ⟨1, none, none, .op .hard (oStore 1 (.tmp 34) (.val (.int .i64 (-1)))), []⟩])
              (.exit 0))
             (.skip)))
           (.drawn [⟨0, some 35, none, .op .quiet (oMv (.tmp 0)), []⟩,
             ⟨1, some 36, none, .op .quiet (oNilCheck (.tmp 35)), []⟩,
             ⟨2, some 37, none, .op .quiet (oFieldAddr 11 (.tmp 36)), []⟩,
             ⟨3, some 38, none, .op .reads (oLoad (.tmp 37)), []⟩,
             ⟨4, some 39, none, .op .quiet (oFieldAddr 1 (.tmp 5)), []⟩,
             ⟨5, some 40, none, .op .reads (oLoad (.tmp 39)), []⟩,
             ⟨6, some 41, none, .op .quiet (oIdxS 1 (.tmp 38) (.tmp 40)), []⟩,
             ⟨7, some 42, none, .op .reads (oLoad (.tmp 41)), []⟩,
             ⟨8, some 43, none, .op .quiet (oFieldAddr 1 (.tmp 5)), []⟩,
             ⟨9, none, none, .op .hard (oStore 1 (.tmp 43) (.tmp 42)), []⟩])))))))
     (.seq
      (.drawn [⟨0, some 44, none, .op .quiet (oMv (.tmp 0)), []⟩,
        ⟨1, some 45, none, .op .quiet (oNilCheck (.tmp 44)), []⟩,
        ⟨2, some 46, none, .op .quiet (oFieldAddr 11 (.tmp 45)), []⟩,
        ⟨3, some 47, none, .op .reads (oLoad (.tmp 46)), []⟩,
        ⟨4, some 48, none, .op .quiet (oFieldAddr 0 (.tmp 5)), []⟩,
        ⟨5, some 49, none, .op .reads (oLoad (.tmp 48)), []⟩,
        ⟨6, some 50, none, .op .quiet (oFieldAddr 0 (.tmp 6)), []⟩,
        ⟨7, some 51, none, .op .reads (oLoad (.tmp 50)), []⟩,
        ⟨8, some 52, none, .op .quiet (oIdxS 1 (.tmp 47) (.tmp 49)), []⟩,
        ⟨9, none, none, .op .hard (oStore 1 (.tmp 52) (.tmp 51)), []⟩])
      (.seq
       (.drawn [⟨0, some 53, none, .op .quiet (oMv (.tmp 0)), []⟩,
         ⟨1, some 54, none, .op .quiet (oNilCheck (.tmp 53)), []⟩,
         ⟨2, some 55, none, .op .quiet (oFieldAddr 12 (.tmp 54)), []⟩,
         ⟨3, some 56, none, .op .reads (oLoad (.tmp 55)), []⟩,
         ⟨4, some 57, none, .op .quiet (oFieldAddr 0 (.tmp 5)), []⟩,
         ⟨5, some 58, none, .op .reads (oLoad (.tmp 57)), []⟩,
         ⟨6, some 59, none, .op .quiet (oIdxS 1 (.tmp 56) (.tmp 58)), []⟩,
         ⟨7, none, none, .op .hard (oStore 1 (.tmp 59) (.val (.int .i64 (-1)))), []⟩])
       (.seq
        (.ops [⟨0, some 60, none, .op .reads (oLoadN 2 (.val (.pointer (some ⟨0, 0, none⟩)))), []⟩,
          ⟨1, none, none, .op .hard (oStore 2 (.tmp 8) (.tmp 60)), []⟩])
        (.ret)))))))⟩
/-- slices.pdqsortCmpFunc[tangram/api.Edge] -/
noncomputable def a306 : AF := ⟨[],
 (.seq
   (.ops [⟨0, some 10, none, .op .quiet (oMv (.val (.bool true))), []⟩])
   (.seq
    (.ops [⟨0, some 11, none, .op .quiet (oMv (.val (.bool true))), []⟩])
    (.block 0
     (.loop
      (.block 1
       (.seq
        (.ops [⟨0, some 21, none, .op .quiet (oMv (.tmp 2)), []⟩,
          ⟨1, some 22, none, .op .quiet (oMv (.tmp 1)), []⟩,
          ⟨2, some 23, none, .op .quiet (oArith .sub (.tmp 21) (.tmp 22)), []⟩,
          ⟨3, some 12, none, .op .quiet (oMv (.tmp 23)), []⟩])
        (.seq
         (.seq
          (.ops [⟨0, some 24, none, .op .quiet (oMv (.tmp 12)), []⟩,
            ⟨1, some 25, none, .op .quiet (oArith .leq (.tmp 24) (.val (.int .i64 12))), []⟩])
          (.cond (.tmp 25)
           (.seq
            (.ops [⟨0, some 26, none, .op .quiet (oMv (.tmp 0)), []⟩,
              ⟨1, some 27, none, .op .quiet (oMv (.tmp 1)), []⟩,
              ⟨2, some 28, none, .op .quiet (oMv (.tmp 2)), []⟩,
              ⟨3, some 29, none, .op .quiet (oMv (.tmp 4)), []⟩,
              ⟨4, some 30, none, .callF 335 [(.tmp 26), (.tmp 27), (.tmp 28), (.tmp 29)], []⟩])
            (.ret))
           (.skip)))
         (.seq
          (.seq
           (.ops [⟨0, some 31, none, .op .quiet (oMv (.tmp 3)), []⟩,
             ⟨1, some 32, none, .op .quiet (oArith .eql (.tmp 31) (.val (.int .i64 0))), []⟩])
           (.cond (.tmp 32)
            (.seq
             (.ops [⟨0, some 33, none, .op .quiet (oMv (.tmp 0)), []⟩,
               ⟨1, some 34, none, .op .quiet (oMv (.tmp 1)), []⟩,
               ⟨2, some 35, none, .op .quiet (oMv (.tmp 2)), []⟩,
               ⟨3, some 36, none, .op .quiet (oMv (.tmp 4)), []⟩,
               ⟨4, some 37, none, .callF 336 [(.tmp 33), (.tmp 34), (.tmp 35), (.tmp 36)], []⟩])
             (.ret))
            (.skip)))
          (.seq
           (.seq
            (.ops [⟨0, some 38, none, .op .quiet (oMv (.tmp 10)), []⟩,
              ⟨1, some 39, none, .op .quiet (oNot (.tmp 38)), []⟩])
            (.cond (.tmp 39)
             (.seq
              (.ops [⟨0, some 40, none, .op .quiet (oMv (.tmp 0)), []⟩,
                ⟨1, some 41, none, .op .quiet (oMv (.tmp 1)), []⟩,
                ⟨2, some 42, none, .op .quiet (oMv (.tmp 2)), []⟩,
                ⟨3, some 43, none, .op .quiet (oMv (.tmp 4)), []⟩,
                ⟨4, some 44, none, .callF 337 [(.tmp 40), (.tmp 41), (.tmp 42), (.tmp 43)], []⟩])
              (.ops [⟨0, some 45, none, .op .quiet (oMv (.tmp 3)), []⟩,
                ⟨1, some 46, none, .op .quiet (oArith .sub (.tmp 45) (.val (.int .i64 1))), []⟩,
                ⟨2, some 3, none, .op .quiet (oMv (.tmp 46)), []⟩]))
             (.skip)))
           (.seq
            (.ops [⟨0, some 48, none, .op .quiet (oMv (.tmp 0)), []⟩,
              ⟨1, some 49, none, .op .quiet (oMv (.tmp 1)), []⟩,
              ⟨2, some 50, none, .op .quiet (oMv (.tmp 2)), []⟩,
              ⟨3, some 51, none, .op .quiet (oMv (.tmp 4)), []⟩,
              ⟨4, some 52, none, .callF 338 [(.tmp 48), (.tmp 49), (.tmp 50), (.tmp 51)], []⟩,
              ⟨5, some 47, none, .op .quiet (oMv (.tmp 52)), []⟩,
              ⟨6, some 53, none, .op .quiet (oExtract 0 (.tmp 47)), []⟩,
              ⟨7, some 54, none, .op .quiet (oExtract 1 (.tmp 47)), []⟩,
              ⟨8, some 13, none, .op .quiet (oMv (.tmp 53)), []⟩,
              ⟨9, some 14, none, .op .quiet (oMv (.tmp 54)), []⟩])
            (.seq
             (.seq
              (.ops [⟨0, some 55, none, .op .quiet (oMv (.tmp 14)), []⟩,
                ⟨1, some 56, none, .op .quiet (oArith .eql (.tmp 55) (.val (.int .i64 2))), []⟩])
              (.cond (.tmp 56)
               (.seq
                (.ops [⟨0, some 57, none, .op .quiet (oMv (.tmp 0)), []⟩,
                  ⟨1, some 58, none, .op .quiet (oMv (.tmp 1)), []⟩,
                  ⟨2, some 59, none, .op .quiet (oMv (.tmp 2)), []⟩,
                  ⟨3, some 60, none, .op .quiet (oMv (.tmp 4)), []⟩,
                  ⟨4, some 61, none, .callF 339 [(.tmp 57), (.tmp 58), (.tmp 59), (.tmp 60)], []⟩])
                (.seq
                 (.ops [⟨0, some 62, none, .op .quiet (oMv (.tmp 2)), []⟩,
                   ⟨1, some 63, none, .op .quiet (oArith .sub (.tmp 62) (.val (.int .i64 1))), []⟩,
                   ⟨2, some 64, none, .op .quiet (oMv (.tmp 13)), []⟩,
                   ⟨3, some 65, none, .op .quiet (oMv (.tmp 1)), []⟩,
                   ⟨4, some 66, none, .op .quiet (oArith .sub (.tmp 64) (.tmp 65)), []⟩,
                   ⟨5, some 67, none, .op .quiet (oArith .sub (.tmp 63) (.tmp 66)), []⟩,
                   ⟨6, some 13, none, .op .quiet (oMv (.tmp 67)), []⟩])
                 (.ops [⟨0, some 14, none, .op .quiet (oMv (.val (.int .i64 1))), []⟩])))
               (.skip)))
             (.seq
              (.seq
               (.ops [⟨0, some 68, none, .op .quiet (oMv (.tmp 10)), []⟩,
                 ⟨1, some 69, none, .op .quiet (oMv (.tmp 68)), []⟩,
                 ⟨2, some 70, some (69, true), .op .quiet (oMv (.tmp 11)), []⟩,
                 ⟨3, some 71, none, .op .quiet (oPick (.tmp 69) (.tmp 70) (.val (.bool false))), []⟩,
                 ⟨4, some 72, none, .op .quiet (oMv (.tmp 71)), []⟩,
                 ⟨5, some 73, some (72, true), .op .quiet (oMv (.tmp 14)), []⟩,
                 ⟨6, some 74, some (72, true), .op .quiet (oArith .eql (.tmp 73) (.val (.int .i64 1))), []⟩,
                 ⟨7, some 75, none, .op .quiet (oPick (.tmp 72) (.tmp 74) (.val (.bool false))), []⟩])
               (.cond (.tmp 75)
                (.seq
                 (.ops [⟨0, some 76, none, .op .quiet (oMv (.tmp 0)), []⟩,
                   ⟨1, some 77, none, .op .quiet (oMv (.tmp 1)), []⟩,
                   ⟨2, some 78, none, .op .quiet (oMv (.tmp 2)), []⟩,
                   ⟨3, some 79, none, .op .quiet (oMv (.tmp 4)), []⟩,
                   ⟨4, some 80, none, .callF 340 [(.tmp 76), (.tmp 77), (.tmp 78), (.tmp 79)], []⟩])
                 (.cond (.tmp 80)
                  (.ret)
                  (.skip)))
                (.skip)))
              (.seq
               (.seq
                (.drawn [⟨0, some 81, none, .op .quiet (oMv (.tmp 1)), []⟩,
                  ⟨1, some 82, none, .op .quiet (oArith .gtr (.tmp 81) (.val (.int .i64 0))), []⟩,
                  ⟨2, some 83, none, .op .quiet (oMv (.tmp 82)), []⟩,
                  ⟨3, some 84, some (83, true), .op .quiet (oMv (.tmp 4)), []⟩,
                  ⟨4, some 85, some (83, true), .op .quiet (oMv (.tmp 0)), []⟩,
                  ⟨5, some 86, some (83, true), .op .quiet (oMv (.tmp 1)), []⟩,
                  ⟨6, some 87, some (83, true), .op .quiet (oArith .sub (.tmp 86) (.val (.int .i64 1))), []⟩,
                  ⟨7, some 88, some (83, true), .op .quiet (oIdxS 2 (.tmp 85) (.tmp 87)), []⟩,
                  ⟨8, some 89, some (83, true), .op .reads (oLoadN 2 (.tmp 88)), []⟩,
                  ⟨9, some 90, some (83, true), .op .quiet (oMv (.tmp 0)), []⟩,
                  ⟨10, some 91, some (83, true), .op .quiet (oMv (.tmp 13)), []⟩,
                  ⟨11, some 92, some (83, true), .op .quiet (oIdxS 2 (.tmp 90) (.tmp 91)), []⟩,
                  ⟨12, some 93, some (83, true), .op .reads (oLoadN 2 (.tmp 92)), []⟩,
                  ⟨13, some 94, some (83, true), .call (.tmp 84) [(.tmp 89), (.tmp 93)], []⟩,
                  ⟨14, some 95, some (83, true), .op .quiet (oArith .lss (.tmp 94) (.val (.int .i64 0))), []⟩,
                  ⟨15, some 96, some (83, true), .op .quiet (oNot (.tmp 95)), []⟩,
                  ⟨16, some 97, none, .op .quiet (oPick (.tmp 83) (.tmp 96) (.val (.bool false))), []⟩])
                (.cond (.tmp 97)
                 (.seq
                  (.ops [⟨0, some 98, none, .op .quiet (oMv (.tmp 0)), []⟩,
                    ⟨1, some 99, none, .op .quiet (oMv (.tmp 1)), []⟩,
                    ⟨2, some 100, none, .op .quiet (oMv (.tmp 2)), []⟩,
                    ⟨3, some 101, none, .op .quiet (oMv (.tmp 13)), []⟩,
                    ⟨4, some 102, none, .op .quiet (oMv (.tmp 4)), []⟩,
                    ⟨5, some 103, none, .callF 341 [(.tmp 98), (.tmp 99), (.tmp 100), (.tmp 101), (.tmp 102)], []⟩,
                    ⟨6, some 15, none, .op .quiet (oMv (.tmp 103)), []⟩])
                  (.seq
                   (.ops [⟨0, some 104, none, .op .quiet (oMv (.tmp 15)), []⟩,
                     ⟨1, some 1, none, .op .quiet (oMv (.tmp 104)), []⟩])
                   (.exit 1)))
                 (.skip)))
               (.seq
                (.ops [⟨0, some 106, none, .op .quiet (oMv (.tmp 0)), []⟩,
                  ⟨1, some 107, none, .op .quiet (oMv (.tmp 1)), []⟩,
                  ⟨2, some 108, none, .op .quiet (oMv (.tmp 2)), []⟩,
                  ⟨3, some 109, none, .op .quiet (oMv (.tmp 13)), []⟩,
                  ⟨4, some 110, none, .op .quiet (oMv (.tmp 4)), []⟩,
                  ⟨5, some 111, none, .callF 342 [(.tmp 106), (.tmp 107), (.tmp 108), (.tmp 109), (.tmp 110)], []⟩,
                  ⟨6, some 105, none, .op .quiet (oMv (.tmp 111)), []⟩,
                  ⟨7, some 112, none, .op .quiet (oExtract 0 (.tmp 105)), []⟩,
                  ⟨8, some 113, none, .op .quiet (oExtract 1 (.tmp 105)), []⟩,
                  ⟨9, some 16, none, .op .quiet (oMv (.tmp 112)), []⟩,
                  ⟨10, some 17, none, .op .quiet (oMv (.tmp 113)), []⟩])
                (.seq
                 (.ops [⟨0, some 114, none, .op .quiet (oMv (.tmp 17)), []⟩,
                   ⟨1, some 11, none, .op .quiet (oMv (.tmp 114)), []⟩])
                 (.seq
                  (.ops [⟨0, some 115, none, .op .quiet (oMv (.tmp 16)), []⟩,
                    ⟨1, some 116, none, .op .quiet (oMv (.tmp 1)), []⟩,
                    ⟨2, some 117, none, .op .quiet (oArith .sub (.tmp 115) (.tmp 116)), []⟩,
                    ⟨3, some 118, none, .op .quiet (oMv (.tmp 2)), []⟩,
                    ⟨4, some 119, none, .op .quiet (oMv (.tmp 16)), []⟩,
                    ⟨5, some 120, none, .op .quiet (oArith .sub (.tmp 118) (.tmp 119)), []⟩,
                    ⟨6, some 18, none, .op .quiet (oMv (.tmp 117)), []⟩,
                    ⟨7, some 19, none, .op .quiet (oMv (.tmp 120)), []⟩])
                  (.seq
                   (.ops [⟨0, some 121, none, .op .quiet (oMv (.tmp 12)), []⟩,
                     ⟨1, some 122, none, .op .quiet (oArith .quo (.tmp 121) (.val (.int .i64 8))), []⟩,
                     ⟨2, some 20, none, .op .quiet (oMv (.tmp 122)), []⟩])
                   (.seq
                    (.ops [⟨0, some 123, none, .op .quiet (oMv (.tmp 18)), []⟩,
                      ⟨1, some 124, none, .op .quiet (oMv (.tmp 19)), []⟩,
                      ⟨2, some 125, none, .op .quiet (oArith .lss (.tmp 123) (.tmp 124)), []⟩])
                    (.cond (.tmp 125)
                     (.seq
                      (.ops [⟨0, some 126, none, .op .quiet (oMv (.tmp 18)), []⟩,
                        ⟨1, some 127, none, .op .quiet (oMv (.tmp 20)), []⟩,
                        ⟨2, some 128, none, .op .quiet (oArith .geq (.tmp 126) (.tmp 127)), []⟩,
                        ⟨3, some 10, none, .op .quiet (oMv (.tmp 128)), []⟩])
                      (.seq
                       (.ops [⟨0, some 129, none, .op .quiet (oMv (.tmp 0)), []⟩,
                         ⟨1, some 130, none, .op .quiet (oMv (.tmp 1)), []⟩,
                         ⟨2, some 131, none, .op .quiet (oMv (.tmp 16)), []⟩,
                         ⟨3, some 132, none, .op .quiet (oMv (.tmp 3)), []⟩,
                         ⟨4, some 133, none, .op .quiet (oMv (.tmp 4)), []⟩,
                         ⟨5, some 134, none, .callF 306 [(.tmp 129), (.tmp 130), (.tmp 131), (.tmp 132), (.tmp 133)], []⟩])
                       (.ops [⟨0, some 135, none, .op .quiet (oMv (.tmp 16)), []⟩,
                         ⟨1, some 136, none, .op .quiet (oArith .add (.tmp 135) (.val (.int .i64 1))), []⟩,
                         ⟨2, some 1, none, .op .quiet (oMv (.tmp 136)), []⟩])))
                     (.seq
                      (.ops [⟨0, some 137, none, .op .quiet (oMv (.tmp 19)), []⟩,
                        ⟨1, some 138, none, .op .quiet (oMv (.tmp 20)), []⟩,
                        ⟨2, some 139, none, .op .quiet (oArith .geq (.tmp 137) (.tmp 138)), []⟩,
                        ⟨3, some 10, none, .op .quiet (oMv (.tmp 139)), []⟩])
                      (.seq
                       (.ops [⟨0, some 140, none, .op .quiet (oMv (.tmp 0)), []⟩,
                         ⟨1, some 141, none, .op .quiet (oMv (.tmp 16)), []⟩,
                         ⟨2, some 142, none, .op .quiet (oArith .add (.tmp 141) (.val (.int .i64 1))), []⟩,
                         ⟨3, some 143, none, .op .quiet (oMv (.tmp 2)), []⟩,
                         ⟨4, some 144, none, .op .quiet (oMv (.tmp 3)), []⟩,
                         ⟨5, some 145, none, .op .quiet (oMv (.tmp 4)), []⟩,
                         ⟨6, some 146, none, .callF 306 [(.tmp 140), (.tmp 142), (.tmp 143), (.tmp 144), (.tmp 145)], []⟩])
                       (.ops [⟨0, some 147, none, .op .quiet (oMv (.tmp 16)), []⟩,
                         ⟨1, some 2, none, .op .quiet (oMv (.tmp 147)), []⟩]))))))))))))))))))))))⟩
/-- math/bits.Len -/
noncomputable def a307 : AF := ⟨[.tmp 2],
 (.seq
   (.ops [⟨0, some 2, none, .op .quiet (oMv (.val (.int .i64 0))), []⟩])
   (.seq
    (.cond (.val (.bool false))
     (.seq
      (.ops [⟨0, some 3, none, .op .quiet (oMv (.tmp 0)), []⟩,
        ⟨1, some 4, none, .op .quiet (oConv .u32 (.tmp 3)), []⟩,
        ⟨2, some 5, none, .callF 343 [(.tmp 4)], []⟩,
        ⟨3, some 2, none, .op .quiet (oMv (.tmp 5)), []⟩])
      (.ret))
     (.skip))
    (.seq
     (.ops [⟨0, some 6, none, .op .quiet (oMv (.tmp 0)), []⟩,
       ⟨1, some 7, none, .callF 344 [(.tmp 6)], []⟩,
       ⟨2, some 2, none, .op .quiet (oMv (.tmp 7)), []⟩])
     (.ret))))⟩
/-- (*tangram/comps.Sets).has -/
noncomputable def a309 : AF := ⟨[.tmp 4],
 (.seq
   (.ops [⟨0, some 4, none, .op .quiet (oMv (.val (.bool false))), []⟩])
   (.seq
    (.ops [⟨0, some 5, none, .op .quiet (oMv (.tmp 0)), []⟩,
      ⟨1, some 6, none, .op .quiet (oEq true .ptrNil (.tmp 5) (.val (.pointer none))), []⟩,
      ⟨2, some 7, none, .op .quiet (oMv (.tmp 6)), []⟩,
      ⟨3, some 8, some (7, true), .op .quiet (oMv (.tmp 0)), []⟩,
      ⟨4, some 9, some (7, true), .op .quiet (oNilCheck (.tmp 8)), []⟩,
      ⟨5, some 10, some (7, true), .op .quiet (oFieldAddr 0 (.tmp 9)), []⟩,
      ⟨6, some 11, some (7, true), .op .reads (oLoad (.tmp 10)), []⟩,
      ⟨7, some 12, some (7, true), .op .quiet (oMv (.tmp 1)), []⟩,
      ⟨8, some 13, some (7, true), .callF 345 [(.tmp 11), (.tmp 12)], []⟩,
      ⟨9, some 14, none, .op .quiet (oPick (.tmp 7) (.tmp 13) (.val (.bool false))), []⟩,
      ⟨10, some 4, none, .op .quiet (oMv (.tmp 14)), []⟩])
    (.ret)))⟩
/-- (tangram/comps.parents).root -/
noncomputable def a310 : AF := ⟨[.tmp 4],
 (.seq
   (.ops [⟨0, some 4, none, .op .quiet (oMv (.val (.int .i64 0))), []⟩])
   (.seq
    (.block 0
     (.loop
      (.seq
       (.seq
        (.ops [⟨0, some 5, none, .op .quiet (oMv (.tmp 0)), []⟩,
          ⟨1, some 6, none, .op .quiet (oMv (.tmp 1)), []⟩,
          ⟨2, some 7, none, .op .quiet (oIdxS 1 (.tmp 5) (.tmp 6)), []⟩,
          ⟨3, some 8, none, .op .reads (oLoad (.tmp 7)), []⟩,
          ⟨4, some 9, none, .op .quiet (oMv (.tmp 1)), []⟩,
          ⟨5, some 10, none, .op .quiet (oArith .neq (.tmp 8) (.tmp 9)), []⟩])
        (.cond (.tmp 10)
         (.skip)
         (.exit 0)))
       (.block 1
        (.seq
         (.ops [⟨0, some 11, none, .op .quiet (oMv (.tmp 0)), []⟩,
           ⟨1, some 12, none, .op .quiet (oMv (.tmp 1)), []⟩,
           ⟨2, some 13, none, .op .quiet (oMv (.tmp 0)), []⟩,
           ⟨3, some 14, none, .op .quiet (oMv (.tmp 0)), []⟩,
           ⟨4, some 15, none, .op .quiet (oMv (.tmp 1)), []⟩,
           ⟨5, some 16, none, .op .quiet (oIdxS 1 (.tmp 14) (.tmp 15)), []⟩,
           ⟨6, some 17, none, .op .reads (oLoad (.tmp 16)), []⟩,
           ⟨7, some 18, none, .op .quiet (oIdxS 1 (.tmp 13) (.tmp 17)), []⟩,
           ⟨8, some 19, none, .op .reads (oLoad (.tmp 18)), []⟩,
           ⟨9, some 20, none, .op .quiet (oIdxS 1 (.tmp 11) (.tmp 12)), []⟩,
           ⟨10, none, none, .op .hard (oStore 1 (.tmp 20) (.tmp 19)), []⟩])
         (.ops [⟨0, some 21, none, .op .quiet (oMv (.tmp 0)), []⟩,
           ⟨1, some 22, none, .op .quiet (oMv (.tmp 1)), []⟩,
           ⟨2, some 23, none, .op .quiet (oIdxS 1 (.tmp 21) (.tmp 22)), []⟩,
           ⟨3, some 24, none, .op .reads (oLoad (.tmp 23)), []⟩,
           ⟨4, some 1, none, .op .quiet (oMv (.tmp 24)), []⟩]))))))
    (.seq
     (.ops [⟨0, some 25, none, .op .quiet (oMv (.tmp 1)), []⟩,
       ⟨1, some 4, none, .op .quiet (oMv (.tmp 25)), []⟩])
     (.ret))))⟩
/-- cmp.isNaN[int] -/
noncomputable def a317 : AF := ⟨[.tmp 2],
 (.seq
   (.ops [⟨0, some 2, none, .op .quiet (oMv (.val (.bool false))), []⟩])
   (.seq
    (.ops [⟨0, some 3, none, .op .quiet (oMv (.tmp 0)), []⟩,
      ⟨1, some 4, none, .op .quiet (oMv (.tmp 0)), []⟩,
      ⟨2, some 5, none, .op .quiet (oArith .neq (.tmp 3) (.tmp 4)), []⟩,
      ⟨3, some 2, none, .op .quiet (oMv (.tmp 5)), []⟩])
    (.ret)))⟩
/-- (*tangram/csr.Adj).N -/
noncomputable def a329 : AF := ⟨[.tmp 2],
 (.seq
   (.ops [⟨0, some 2, none, .op .quiet (oMv (.val (.int .i64 0))), []⟩])
   (.seq
    (.seq
     (.ops [⟨0, some 3, none, .op .quiet (oMv (.tmp 0)), []⟩,
       ⟨1, some 4, none, .op .quiet (oEq false .ptrNil (.tmp 3) (.val (.pointer none))), []⟩])
     (.cond (.tmp 4)
      (.seq
       (.ops [⟨0, some 2, none, .op .quiet (oMv (.val (.int .i64 0))), []⟩])
       (.ret))
      (.skip)))
    (.seq
     (.ops [⟨0, some 5, none, .op .quiet (oMv (.tmp 0)), []⟩,
       ⟨1, some 6, none, .op .quiet (oNilCheck (.tmp 5)), []⟩,
       ⟨2, some 7, none, .op .quiet (oFieldAddr 1 (.tmp 6)), []⟩,
       ⟨3, some 8, none, .op .reads (oLoad (.tmp 7)), []⟩,
       ⟨4, some 9, none, .op .reads (oLen .slice (.tmp 8)), []⟩,
       ⟨5, some 10, none, .op .quiet (oArith .sub (.tmp 9) (.val (.int .i64 1))), []⟩,
       ⟨6, some 2, none, .op .quiet (oMv (.tmp 10)), []⟩])
     (.ret))))⟩
/-- (*tangram/embed.ring).behind -/
noncomputable def a330 : AF := ⟨[],
 (.seq
   (.ops [⟨0, some 7, none, .op .quiet (oMv (.tmp 0)), []⟩,
     ⟨1, some 8, none, .op .quiet (oNilCheck (.tmp 7)), []⟩,
     ⟨2, some 9, none, .op .quiet (oFieldAddr 6 (.tmp 8)), []⟩,
     ⟨3, some 10, none, .op .reads (oLoad (.tmp 9)), []⟩,
     ⟨4, some 11, none, .op .quiet (oMv (.tmp 1)), []⟩,
     ⟨5, some 12, none, .op .quiet (oIdxS 1 (.tmp 10) (.tmp 11)), []⟩,
     ⟨6, some 13, none, .op .reads (oLoad (.tmp 12)), []⟩,
     ⟨7, some 6, none, .op .quiet (oMv (.tmp 13)), []⟩])
   (.drawn [⟨0, some 14, none, .op .quiet (oMv (.tmp 0)), []⟩,
     ⟨1, some 15, none, .op .quiet (oNilCheck (.tmp 14)), []⟩,
     ⟨2, some 16, none, .op .quiet (oFieldAddr 6 (.tmp 15)), []⟩,
     ⟨3, some 17, none, .op .reads (oLoad (.tmp 16)), []⟩,
     ⟨4, some 18, none, .op .quiet (oMv (.tmp 1)), []⟩,
     ⟨5, some 19, none, .op .quiet (oMv (.tmp 0)), []⟩,
     ⟨6, some 20, none, .op .quiet (oNilCheck (.tmp 19)), []⟩,
     ⟨7, some 21, none, .op .quiet (oFieldAddr 7 (.tmp 20)), []⟩,
     ⟨8, some 22, none, .op .reads (oLoad (.tmp 21)), []⟩,
     ⟨9, some 23, none, .op .quiet (oMv (.tmp 2)), []⟩,
     ⟨10, some 24, none, .op .quiet (oMv (.tmp 0)), []⟩,
     ⟨11, some 25, none, .op .quiet (oNilCheck (.tmp 24)), []⟩,
     ⟨12, some 26, none, .op .quiet (oFieldAddr 6 (.tmp 25)), []⟩,
     ⟨13, some 27, none, .op .reads (oLoad (.tmp 26)), []⟩,
     ⟨14, some 28, none, .op .quiet (oMv (.tmp 2)), []⟩,
     ⟨15, some 29, none, .op .quiet (oMv (.tmp 0)), []⟩,
     ⟨16, some 30, none, .op .quiet (oNilCheck (.tmp 29)), []⟩,
     ⟨17, some 31, none, .op .quiet (oFieldAddr 7 (.tmp 30)), []⟩,
     ⟨18, some 32, none, .op .reads (oLoad (.tmp 31)), []⟩,
     ⟨19, some 33, none, .op .quiet (oMv (.tmp 6)), []⟩,
     ⟨20, some 34, none, .op .quiet (oMv (.tmp 2)), []⟩,
     ⟨21, some 35, none, .op .quiet (oMv (.tmp 1)), []⟩,
     ⟨22, some 36, none, .op .quiet (oMv (.tmp 6)), []⟩,
     ⟨23, some 37, none, .op .quiet (oMv (.tmp 2)), []⟩,
     ⟨24, some 38, none, .op .quiet (oIdxS 1 (.tmp 17) (.tmp 18)), []⟩,
     ⟨25, none, none, .op .hard (oStore 1 (.tmp 38) (.tmp 34)), []⟩,
     ⟨26, some 39, none, .op .quiet (oIdxS 1 (.tmp 22) (.tmp 23)), []⟩,
     ⟨27, none, none, .op .hard (oStore 1 (.tmp 39) (.tmp 35)), []⟩,
     ⟨28, some 40, none, .op .quiet (oIdxS 1 (.tmp 27) (.tmp 28)), []⟩,
     ⟨29, none, none, .op .hard (oStore 1 (.tmp 40) (.tmp 36)), []⟩,
     ⟨30, some 41, none, .op .quiet (oIdxS 1 (.tmp 32) (.tmp 33)), []⟩,
     ⟨31, none, none, .op .hard (oStore 1 (.tmp 41) (.tmp 37)), []⟩]))⟩
/-- slices.AppendSeq[[]int,int] -/
noncomputable def a331 : AF := ⟨[.tmp 4],
 (.seq
   (.ops [⟨0, some 2, none, .op .quiet (oBox (.tmp 0)), []⟩,
     ⟨1, some 4, none, .op .quiet (oMv (.val (.slice none 0 0))), []⟩])
   (.seq
    (.seq
     (.ops [⟨0, some 6, none, .op .quiet (oMv (.tmp 1)), []⟩])
     (.block 0
      (.range (.tmp 6) 331006)))
    (.seq
     (.ops [⟨0, some 12, none, .op .reads (oLoad (.tmp 2)), []⟩,
       ⟨1, some 4, none, .op .quiet (oMv (.tmp 12)), []⟩])
     (.ret))))⟩
noncomputable def l331006 : AL := ⟨[7],
 (.ops [⟨0, some 5, none, .op .quiet (oMv (.tmp 7)), []⟩]),
 (.block 1
   (.ops [⟨0, some 8, none, .op .reads (oLoad (.tmp 2)), []⟩,
     ⟨1, some 9, none, .op .quiet (oMv (.tmp 5)), []⟩,
     ⟨2, some 10, none, .op .quiet (oBuildSlice 1 1 [(.int .i64 0)] [(0, 1)] [(.tmp 9)]), []⟩,
     ⟨3, some 11, none, .op .hard (oAppend 1 8 (.tmp 8) (.tmp 10)), []⟩,
     ⟨4, none, none, .op .hard (oStore 1 (.tmp 2) (.tmp 11)), []⟩]))⟩
/-- slices.pdqsortOrdered[int] -/
noncomputable def a332 : AF := ⟨[],
 (.seq
   (.ops [⟨0, some 8, none, .op .quiet (oMv (.val (.bool true))), []⟩])
   (.seq
    (.ops [⟨0, some 9, none, .op .quiet (oMv (.val (.bool true))), []⟩])
    (.block 0
     (.loop
      (.block 1
       (.seq
        (.ops [⟨0, some 19, none, .op .quiet (oMv (.tmp 2)), []⟩,
          ⟨1, some 20, none, .op .quiet (oMv (.tmp 1)), []⟩,
          ⟨2, some 21, none, .op .quiet (oArith .sub (.tmp 19) (.tmp 20)), []⟩,
          ⟨3, some 10, none, .op .quiet (oMv (.tmp 21)), []⟩])
        (.seq
         (.seq
          (.ops [⟨0, some 22, none, .op .quiet (oMv (.tmp 10)), []⟩,
            ⟨1, some 23, none, .op .quiet (oArith .leq (.tmp 22) (.val (.int .i64 12))), []⟩])
          (.cond (.tmp 23)
           (.seq
            (.ops [⟨0, some 24, none, .op .quiet (oMv (.tmp 0)), []⟩,
              ⟨1, some 25, none, .op .quiet (oMv (.tmp 1)), []⟩,
              ⟨2, some 26, none, .op .quiet (oMv (.tmp 2)), []⟩,
              ⟨3, some 27, none, .callF 351 [(.tmp 24), (.tmp 25), (.tmp 26)], []⟩])
            (.ret))
           (.skip)))
         (.seq
          (.seq
           (.ops [⟨0, some 28, none, .op .quiet (oMv (.tmp 3)), []⟩,
             ⟨1, some 29, none, .op .quiet (oArith .eql (.tmp 28) (.val (.int .i64 0))), []⟩])
           (.cond (.tmp 29)
            (.seq
             (.ops [⟨0, some 30, none, .op .quiet (oMv (.tmp 0)), []⟩,
               ⟨1, some 31, none, .op .quiet (oMv (.tmp 1)), []⟩,
               ⟨2, some 32, none, .op .quiet (oMv (.tmp 2)), []⟩,
               ⟨3, some 33, none, .callF 352 [(.tmp 30), (.tmp 31), (.tmp 32)], []⟩])
             (.ret))
            (.skip)))
          (.seq
           (.seq
            (.ops [⟨0, some 34, none, .op .quiet (oMv (.tmp 8)), []⟩,
              ⟨1, some 35, none, .op .quiet (oNot (.tmp 34)), []⟩])
            (.cond (.tmp 35)
             (.seq
              (.ops [⟨0, some 36, none, .op .quiet (oMv (.tmp 0)), []⟩,
                ⟨1, some 37, none, .op .quiet (oMv (.tmp 1)), []⟩,
                ⟨2, some 38, none, .op .quiet (oMv (.tmp 2)), []⟩,
                ⟨3, some 39, none, .callF 353 [(.tmp 36), (.tmp 37), (.tmp 38)], []⟩])
              (.ops [⟨0, some 40, none, .op .quiet (oMv (.tmp 3)), []⟩,
                ⟨1, some 41, none, .op .quiet (oArith .sub (.tmp 40) (.val (.int .i64 1))), []⟩,
                ⟨2, some 3, none, .op .quiet (oMv (.tmp 41)), []⟩]))
             (.skip)))
           (.seq
            (.ops [⟨0, some 43, none, .op .quiet (oMv (.tmp 0)), []⟩,
              ⟨1, some 44, none, .op .quiet (oMv (.tmp 1)), []⟩,
              ⟨2, some 45, none, .op .quiet (oMv (.tmp 2)), []⟩,
              ⟨3, some 46, none, .callF 354 [(.tmp 43), (.tmp 44), (.tmp 45)], []⟩,
              ⟨4, some 42, none, .op .quiet (oMv (.tmp 46)), []⟩,
              ⟨5, some 47, none, .op .quiet (oExtract 0 (.tmp 42)), []⟩,
              ⟨6, some 48, none, .op .quiet (oExtract 1 (.tmp 42)), []⟩,
              ⟨7, some 11, none, .op .quiet (oMv (.tmp 47)), []⟩,
              ⟨8, some 12, none, .op .quiet (oMv (.tmp 48)), []⟩])
            (.seq
             (.seq
              (.ops [⟨0, some 49, none, .op .quiet (oMv (.tmp 12)), []⟩,
                ⟨1, some 50, none, .op .quiet (oArith .eql (.tmp 49) (.val (.int .i64 2))), []⟩])
              (.cond (.tmp 50)
               (.seq
                (.ops [⟨0, some 51, none, .op .quiet (oMv (.tmp 0)), []⟩,
                  ⟨1, some 52, none, .op .quiet (oMv (.tmp 1)), []⟩,
                  ⟨2, some 53, none, .op .quiet (oMv (.tmp 2)), []⟩,
                  ⟨3, some 54, none, .callF 355 [(.tmp 51), (.tmp 52), (.tmp 53)], []⟩])
                (.seq
                 (.ops [⟨0, some 55, none, .op .quiet (oMv (.tmp 2)), []⟩,
                   ⟨1, some 56, none, .op .quiet (oArith .sub (.tmp 55) (.val (.int .i64 1))), []⟩,
                   ⟨2, some 57, none, .op .quiet (oMv (.tmp 11)), []⟩,
                   ⟨3, some 58, none, .op .quiet (oMv (.tmp 1)), []⟩,
                   ⟨4, some 59, none, .op .quiet (oArith .sub (.tmp 57) (.tmp 58)), []⟩,
                   ⟨5, some 60, none, .op .quiet (oArith .sub (.tmp 56) (.tmp 59)), []⟩,
                   ⟨6, some 11, none, .op .quiet (oMv (.tmp 60)), []⟩])
                 (.ops [⟨0, some 12, none, .op .quiet (oMv (.val (.int .i64 1))), []⟩])))
               (.skip)))
             (.seq
              (.seq
               (.ops [⟨0, some 61, none, .op .quiet (oMv (.tmp 8)), []⟩,
                 ⟨1, some 62, none, .op .quiet (oMv (.tmp 61)), []⟩,
                 ⟨2, some 63, some (62, true), .op .quiet (oMv (.tmp 9)), []⟩,
                 ⟨3, some 64, none, .op .quiet (oPick (.tmp 62) (.tmp 63) (.val (.bool false))), []⟩,
                 ⟨4, some 65, none, .op .quiet (oMv (.tmp 64)), []⟩,
                 ⟨5, some 66, some (65, true), .op .quiet (oMv (.tmp 12)), []⟩,
                 ⟨6, some 67, some (65, true), .op .quiet (oArith .eql (.tmp 66) (.val (.int .i64 1))), []⟩,
                 ⟨7, some 68, none, .op .quiet (oPick (.tmp 65) (.tmp 67) (.val (.bool false))), []⟩])
               (.cond (.tmp 68)
                (.seq
                 (.ops [⟨0, some 69, none, .op .quiet (oMv (.tmp 0)), []⟩,
                   ⟨1, some 70, none, .op .quiet (oMv (.tmp 1)), []⟩,
                   ⟨2, some 71, none, .op .quiet (oMv (.tmp 2)), []⟩,
                   ⟨3, some 72, none, .callF 356 [(.tmp 69), (.tmp 70), (.tmp 71)], []⟩])
                 (.cond (.tmp 72)
                  (.ret)
                  (.skip)))
                (.skip)))
              (.seq
               (.seq
                (.drawn [⟨0, some 73, none, .op .quiet (oMv (.tmp 1)), []⟩,
                  ⟨1, some 74, none, .op .quiet (oArith .gtr (.tmp 73) (.val (.int .i64 0))), []⟩,
                  ⟨2, some 75, none, .op .quiet (oMv (.tmp 74)), []⟩,
                  ⟨3, some 76, some (75, true), .op .quiet (oMv (.tmp 0)), []⟩,
                  ⟨4, some 77, some (75, true), .op .quiet (oMv (.tmp 1)), []⟩,
                  ⟨5, some 78, some (75, true), .op .quiet (oArith .sub (.tmp 77) (.val (.int .i64 1))), []⟩,
                  ⟨6, some 79, some (75, true), .op .quiet (oIdxS 1 (.tmp 76) (.tmp 78)), []⟩,
                  ⟨7, some 80, some (75, true), .op .reads (oLoad (.tmp 79)), []⟩,
                  ⟨8, some 81, some (75, true), .op .quiet (oMv (.tmp 0)), []⟩,
                  ⟨9, some 82, some (75, true), .op .quiet (oMv (.tmp 11)), []⟩,
                  ⟨10, some 83, some (75, true), .op .quiet (oIdxS 1 (.tmp 81) (.tmp 82)), []⟩,
                  ⟨11, some 84, some (75, true), .op .reads (oLoad (.tmp 83)), []⟩,
                  ⟨12, some 85, some (75, true), .callF 357 [(.tmp 80), (.tmp 84)], []⟩,
                  ⟨13, some 86, some (75, true), .op .quiet (oNot (.tmp 85)), []⟩,
                  ⟨14, some 87, none, .op .quiet (oPick (.tmp 75) (.tmp 86) (.val (.bool false))), []⟩])
                (.cond (.tmp 87)
                 (.seq
                  (.ops [⟨0, some 88, none, .op .quiet (oMv (.tmp 0)), []⟩,
                    ⟨1, some 89, none, .op .quiet (oMv (.tmp 1)), []⟩,
                    ⟨2, some 90, none, .op .quiet (oMv (.tmp 2)), []⟩,
                    ⟨3, some 91, none, .op .quiet (oMv (.tmp 11)), []⟩,
                    ⟨4, some 92, none, .callF 358 [(.tmp 88), (.tmp 89), (.tmp 90), (.tmp 91)], []⟩,
                    ⟨5, some 13, none, .op .quiet (oMv (.tmp 92)), []⟩])
                  (.seq
                   (.ops [⟨0, some 93, none, .op .quiet (oMv (.tmp 13)), []⟩,
                     ⟨1, some 1, none, .op .quiet (oMv (.tmp 93)), []⟩])
                   (.exit 1)))
                 (.skip)))
               (.seq
                (.ops [⟨0, some 95, none, .op .quiet (oMv (.tmp 0)), []⟩,
                  ⟨1, some 96, none, .op .quiet (oMv (.tmp 1)), []⟩,
                  ⟨2, some 97, none, .op .quiet (oMv (.tmp 2)), []⟩,
                  ⟨3, some 98, none, .op .quiet (oMv (.tmp 11)), []⟩,
                  ⟨4, some 99, none, .callF 359 [(.tmp 95), (.tmp 96), (.tmp 97), (.tmp 98)], []⟩,
                  ⟨5, some 94, none, .op .quiet (oMv (.tmp 99)), []⟩,
                  ⟨6, some 100, none, .op .quiet (oExtract 0 (.tmp 94)), []⟩,
                  ⟨7, some 101, none, .op .quiet (oExtract 1 (.tmp 94)), []⟩,
                  ⟨8, some 14, none, .op .quiet (oMv (.tmp 100)), []⟩,
                  ⟨9, some 15, none, .op .quiet (oMv (.tmp 101)), []⟩])
                (.seq
                 (.ops [⟨0, some 102, none, .op .quiet (oMv (.tmp 15)), []⟩,
                   ⟨1, some 9, none, .op .quiet (oMv (.tmp 102)), []⟩])
                 (.seq
                  (.ops [⟨0, some 103, none, .op .quiet (oMv (.tmp 14)), []⟩,
                    ⟨1, some 104, none, .op .quiet (oMv (.tmp 1)), []⟩,
                    ⟨2, some 105, none, .op .quiet (oArith .sub (.tmp 103) (.tmp 104)), []⟩,
                    ⟨3, some 106, none, .op .quiet (oMv (.tmp 2)), []⟩,
                    ⟨4, some 107, none, .op .quiet (oMv (.tmp 14)), []⟩,
                    ⟨5, some 108, none, .op .quiet (oArith .sub (.tmp 106) (.tmp 107)), []⟩,
                    ⟨6, some 16, none, .op .quiet (oMv (.tmp 105)), []⟩,
                    ⟨7, some 17, none, .op .quiet (oMv (.tmp 108)), []⟩])
                  (.seq
                   (.ops [⟨0, some 109, none, .op .quiet (oMv (.tmp 10)), []⟩,
                     ⟨1, some 110, none, .op .quiet (oArith .quo (.tmp 109) (.val (.int .i64 8))), []⟩,
                     ⟨2, some 18, none, .op .quiet (oMv (.tmp 110)), []⟩])
                   (.seq
                    (.ops [⟨0, some 111, none, .op .quiet (oMv (.tmp 16)), []⟩,
                      ⟨1, some 112, none, .op .quiet (oMv (.tmp 17)), []⟩,
                      ⟨2, some 113, none, .op .quiet (oArith .lss (.tmp 111) (.tmp 112)), []⟩])
                    (.cond (.tmp 113)
                     (.seq
                      (.ops [⟨0, some 114, none, .op .quiet (oMv (.tmp 16)), []⟩,
                        ⟨1, some 115, none, .op .quiet (oMv (.tmp 18)), []⟩,
                        ⟨2, some 116, none, .op .quiet (oArith .geq (.tmp 114) (.tmp 115)), []⟩,
                        ⟨3, some 8, none, .op .quiet (oMv (.tmp 116)), []⟩])
                      (.seq
                       (.ops [⟨0, some 117, none, .op .quiet (oMv (.tmp 0)), []⟩,
                         ⟨1, some 118, none, .op .quiet (oMv (.tmp 1)), []⟩,
                         ⟨2, some 119, none, .op .quiet (oMv (.tmp 14)), []⟩,
                         ⟨3, some 120, none, .op .quiet (oMv (.tmp 3)), []⟩,
                         ⟨4, some 121, none, .callF 332 [(.tmp 117), (.tmp 118), (.tmp 119), (.tmp 120)], []⟩])
                       (.ops [⟨0, some 122, none, .op .quiet (oMv (.tmp 14)), []⟩,
                         ⟨1, some 123, none, .op .quiet (oArith .add (.tmp 122) (.val (.int .i64 1))), []⟩,
                         ⟨2, some 1, none, .op .quiet (oMv (.tmp 123)), []⟩])))
                     (.seq
                      (.ops [⟨0, some 124, none, .op .quiet (oMv (.tmp 17)), []⟩,
                        ⟨1, some 125, none, .op .quiet (oMv (.tmp 18)), []⟩,
                        ⟨2, some 126, none, .op .quiet (oArith .geq (.tmp 124) (.tmp 125)), []⟩,
                        ⟨3, some 8, none, .op .quiet (oMv (.tmp 126)), []⟩])
                      (.seq
                       (.ops [⟨0, some 127, none, .op .quiet (oMv (.tmp 0)), []⟩,
                         ⟨1, some 128, none, .op .quiet (oMv (.tmp 14)), []⟩,
                         ⟨2, some 129, none, .op .quiet (oArith .add (.tmp 128) (.val (.int .i64 1))), []⟩,
                         ⟨3, some 130, none, .op .quiet (oMv (.tmp 2)), []⟩,
                         ⟨4, some 131, none, .op .quiet (oMv (.tmp 3)), []⟩,
                         ⟨5, some 132, none, .callF 332 [(.tmp 127), (.tmp 129), (.tmp 130), (.tmp 131)], []⟩])
                       (.ops [⟨0, some 133, none, .op .quiet (oMv (.tmp 14)), []⟩,
                         ⟨1, some 2, none, .op .quiet (oMv (.tmp 133)), []⟩]))))))))))))))))))))))⟩
/-- (*tangram/lr.test).under -/
noncomputable def a333 : AF := ⟨[.cellN 6 2],
 (.seq
   (.ops [⟨0, some 4, none, .op .quiet (oBox (.tmp 1)), []⟩,
     ⟨1, some 5, none, .op .quiet (oBox (.tmp 2)), []⟩,
     ⟨2, some 6, none, .op .quiet (oAlloc [(.int .i64 0), (.int .i64 0)]), []⟩])
   (.seq
    (.block 0
     (.seq
      (.ops [⟨0, some 8, none, .op .reads (oLoadN 2 (.tmp 5)), []⟩,
        ⟨1, some 9, none, .op .reads (oLoadN 2 (.val (.pointer (some ⟨0, 0, none⟩)))), []⟩,
        ⟨2, some 10, none, .op .quiet (oEq false (.ints 2) (.tmp 8) (.tmp 9)), []⟩,
        ⟨3, some 7, none, .op .quiet (oMv (.tmp 10)), []⟩])
      (.cond (.tmp 7)
       (.seq
        (.ops [⟨0, some 11, none, .op .reads (oLoadN 2 (.tmp 4)), []⟩,
          ⟨1, none, none, .op .hard (oStore 2 (.tmp 6) (.tmp 11)), []⟩])
        (.ret))
       (.seq
        (.ops [⟨0, some 13, none, .op .reads (oLoadN 2 (.tmp 4)), []⟩,
          ⟨1, some 14, none, .op .reads (oLoadN 2 (.val (.pointer (some ⟨0, 0, none⟩)))), []⟩,
          ⟨2, some 15, none, .op .quiet (oEq false (.ints 2) (.tmp 13) (.tmp 14)), []⟩,
          ⟨3, some 12, none, .op .quiet (oMv (.tmp 15)), []⟩])
        (.cond (.tmp 12)
         (.seq
          (.ops [⟨0, some 16, none, .op .reads (oLoadN 2 (.tmp 5)), []⟩,
            ⟨1, none, none, .op .hard (oStore 2 (.tmp 6) (.tmp 16)), []⟩])
          (.ret))
         (.skip))))))
    (.seq
     (.drawn [⟨0, some 17, none, .op .quiet (oMv (.tmp 0)), []⟩,
       ⟨1, some 18, none, .op .quiet (oNilCheck (.tmp 17)), []⟩,
       ⟨2, some 19, none, .op .quiet (oFieldAddr 11 (.tmp 18)), []⟩,
       ⟨3, some 20, none, .op .reads (oLoad (.tmp 19)), []⟩,
       ⟨4, some 21, none, .op .quiet (oFieldAddr 0 (.tmp 4)), []⟩,
       ⟨5, some 22, none, .op .reads (oLoad (.tmp 21)), []⟩,
       ⟨6, some 23, none, .op .quiet (oFieldAddr 1 (.tmp 5)), []⟩,
       ⟨7, some 24, none, .op .reads (oLoad (.tmp 23)), []⟩,
       ⟨8, some 25, none, .op .quiet (oIdxS 1 (.tmp 20) (.tmp 22)), []⟩,
       ⟨9, none, none, .op .hard (oStore 1 (.tmp 25) (.tmp 24)), []⟩])
     (.seq
      (.ops [⟨0, some 26, none, .op .quiet (oFieldAddr 0 (.tmp 5)), []⟩,
        ⟨1, some 27, none, .op .reads (oLoad (.tmp 26)), []⟩,
        ⟨2, some 28, none, .op .quiet (oFieldAddr 1 (.tmp 4)), []⟩,
        ⟨3, some 29, none, .op .reads (oLoad (.tmp 28)), []⟩,
        ⟨4, some 30, none, .op .quiet (oBuild [(.int .i64 0), (.int .i64 0)] [(0, 1), (1, 1)] [(.tmp 27), (.tmp 29)]), []⟩,
        ⟨5, none, none, .op .hard (oStore 2 (.tmp 6) (.tmp 30)), []⟩])
      (.ret)))))⟩
/-- (*tangram/lr.test).conflicts -/
noncomputable def a334 : AF := ⟨[.tmp 6],
 (.seq
   (.ops [⟨0, some 4, none, .op .quiet (oBox (.tmp 1)), []⟩,
     ⟨1, some 6, none, .op .quiet (oMv (.val (.bool false))), []⟩])
   (.seq
    (.drawn [⟨0, some 7, none, .op .reads (oLoadN 2 (.tmp 4)), []⟩,
      ⟨1, some 8, none, .op .reads (oLoadN 2 (.val (.pointer (some ⟨0, 0, none⟩)))), []⟩,
      ⟨2, some 9, none, .op .quiet (oEq true (.ints 2) (.tmp 7) (.tmp 8)), []⟩,
      ⟨3, some 10, none, .op .quiet (oMv (.tmp 9)), []⟩,
      ⟨4, some 11, some (10, true), .op .quiet (oMv (.tmp 0)), []⟩,
      ⟨5, some 12, some (10, true), .op .quiet (oNilCheck (.tmp 11)), []⟩,
      ⟨6, some 13, some (10, true), .op .quiet (oFieldAddr 6 (.tmp 12)), []⟩,
      ⟨7, some 14, some (10, true), .op .quiet (oFieldAddr 0 (.tmp 13)), []⟩,
      ⟨8, some 15, some (10, true), .op .reads (oLoad (.tmp 14)), []⟩,
      ⟨9, some 16, some (10, true), .op .quiet (oFieldAddr 1 (.tmp 4)), []⟩,
      ⟨10, some 17, some (10, true), .op .reads (oLoad (.tmp 16)), []⟩,
      ⟨11, some 18, some (10, true), .op .quiet (oIdxS 1 (.tmp 15) (.tmp 17)), []⟩,
      ⟨12, some 19, some (10, true), .op .reads (oLoad (.tmp 18)), []⟩,
      ⟨13, some 20, some (10, true), .op .quiet (oMv (.tmp 0)), []⟩,
      ⟨14, some 21, some (10, true), .op .quiet (oNilCheck (.tmp 20)), []⟩,
      ⟨15, some 22, some (10, true), .op .quiet (oFieldAddr 6 (.tmp 21)), []⟩,
      ⟨16, some 23, some (10, true), .op .quiet (oFieldAddr 0 (.tmp 22)), []⟩,
      ⟨17, some 24, some (10, true), .op .reads (oLoad (.tmp 23)), []⟩,
      ⟨18, some 25, some (10, true), .op .quiet (oMv (.tmp 2)), []⟩,
      ⟨19, some 26, some (10, true), .op .quiet (oIdxS 1 (.tmp 24) (.tmp 25)), []⟩,
      ⟨20, some 27, some (10, true), .op .reads (oLoad (.tmp 26)), []⟩,
      ⟨21, some 28, some (10, true), .op .quiet (oArith .gtr (.tmp 19) (.tmp 27)), []⟩,
      ⟨22, some 29, none, .op .quiet (oPick (.tmp 10) (.tmp 28) (.val (.bool false))), []⟩,
      ⟨23, some 6, none, .op .quiet (oMv (.tmp 29)), []⟩])
    (.ret)))⟩
/-- slices.insertionSortCmpFunc[tangram/api.Edge] -/
noncomputable def a335 : AF := ⟨[],
 (.seq
   (.ops [⟨0, some 10, none, .op .quiet (oMv (.tmp 1)), []⟩,
     ⟨1, some 11, none, .op .quiet (oArith .add (.tmp 10) (.val (.int .i64 1))), []⟩,
     ⟨2, some 8, none, .op .quiet (oMv (.tmp 11)), []⟩])
   (.block 0
    (.loop
     (.seq
      (.seq
       (.ops [⟨0, some 12, none, .op .quiet (oMv (.tmp 8)), []⟩,
         ⟨1, some 13, none, .op .quiet (oMv (.tmp 2)), []⟩,
         ⟨2, some 14, none, .op .quiet (oArith .lss (.tmp 12) (.tmp 13)), []⟩])
       (.cond (.tmp 14)
        (.skip)
        (.exit 0)))
      (.seq
       (.block 1
        (.seq
         (.ops [⟨0, some 17, none, .op .quiet (oMv (.tmp 8)), []⟩,
           ⟨1, some 9, none, .op .quiet (oMv (.tmp 17)), []⟩])
         (.block 2
          (.loop
           (.seq
            (.seq
             (.drawn [⟨0, some 18, none, .op .quiet (oMv (.tmp 9)), []⟩,
               ⟨1, some 19, none, .op .quiet (oMv (.tmp 1)), []⟩,
               ⟨2, some 20, none, .op .quiet (oArith .gtr (.tmp 18) (.tmp 19)), []⟩,
               ⟨3, some 21, none, .op .quiet (oMv (.tmp 20)), []⟩,
               ⟨4, some 22, some (21, true), .op .quiet (oMv (.tmp 3)), []⟩,
               ⟨5, some 23, some (21, true), .op .quiet (oMv (.tmp 0)), []⟩,
               ⟨6, some 24, some (21, true), .op .quiet (oMv (.tmp 9)), []⟩,
               ⟨7, some 25, some (21, true), .op .quiet (oIdxS 2 (.tmp 23) (.tmp 24)), []⟩,
               ⟨8, some 26, some (21, true), .op .reads (oLoadN 2 (.tmp 25)), []⟩,
               ⟨9, some 27, some (21, true), .op .quiet (oMv (.tmp 0)), []⟩,
               ⟨10, some 28, some (21, true), .op .quiet (oMv (.tmp 9)), []⟩,
               ⟨11, some 29, some (21, true), .op .quiet (oArith .sub (.tmp 28) (.val (.int .i64 1))), []⟩,
               ⟨12, some 30, some (21, true), .op .quiet (oIdxS 2 (.tmp 27) (.tmp 29)), []⟩,
               ⟨13, some 31, some (21, true), .op .reads (oLoadN 2 (.tmp 30)), []⟩,
               ⟨14, some 32, some (21, true), .call (.tmp 22) [(.tmp 26), (.tmp 31)], []⟩,
               ⟨15, some 33, some (21, true), .op .quiet (oArith .lss (.tmp 32) (.val (.int .i64 0))), []⟩,
               ⟨16, some 34, none, .op .quiet (oPick (.tmp 21) (.tmp 33) (.val (.bool false))), []⟩])
             (.cond (.tmp 34)
              (.skip)
              (.exit 2)))
            (.seq
             (.block 3
              (.drawn [⟨0, some 37, none, .op .quiet (oMv (.tmp 0)), []⟩,
                ⟨1, some 38, none, .op .quiet (oMv (.tmp 9)), []⟩,
                ⟨2, some 39, none, .op .quiet (oMv (.tmp 0)), []⟩,
                ⟨3, some 40, none, .op .quiet (oMv (.tmp 9)), []⟩,
                ⟨4, some 41, none, .op .quiet (oArith .sub (.tmp 40) (.val (.int .i64 1))), []⟩,
                ⟨5, some 42, none, .op .quiet (oMv (.tmp 0)), []⟩,
                ⟨6, some 43, none, .op .quiet (oMv (.tmp 9)), []⟩,
                ⟨7, some 44, none, .op .quiet (oArith .sub (.tmp 43) (.val (.int .i64 1))), []⟩,
                ⟨8, some 45, none, .op .quiet (oIdxS 2 (.tmp 42) (.tmp 44)), []⟩,
                ⟨9, some 46, none, .op .reads (oLoadN 2 (.tmp 45)), []⟩,
                ⟨10, some 47, none, .op .quiet (oMv (.tmp 0)), []⟩,
                ⟨11, some 48, none, .op .quiet (oMv (.tmp 9)), []⟩,
                ⟨12, some 49, none, .op .quiet (oIdxS 2 (.tmp 47) (.tmp 48)), []⟩,
                ⟨13, some 50, none, .op .reads (oLoadN 2 (.tmp 49)), []⟩,
                ⟨14, some 51, none, .op .quiet (oIdxS 2 (.tmp 37) (.tmp 38)), []⟩,
                ⟨15, none, none, .op .hard (oStore 2 (.tmp 51) (.tmp 46)), []⟩,
                ⟨16, some 52, none, .op .quiet (oIdxS 2 (.tmp 39) (.tmp 41)), []⟩,
                ⟨17, none, none, .op .hard (oStore 2 (.tmp 52) (.tmp 50)), []⟩]))
             (.ops [⟨0, some 35, none, .op .quiet (oMv (.tmp 9)), []⟩,
               ⟨1, some 36, none, .op .quiet (oArith .sub (.tmp 35) (.val (.int .i64 1))), []⟩,
               ⟨2, some 9, none, .op .quiet (oMv (.tmp 36)), []⟩])))))))
       (.ops [⟨0, some 15, none, .op .quiet (oMv (.tmp 8)), []⟩,
         ⟨1, some 16, none, .op .quiet (oArith .add (.tmp 15) (.val (.int .i64 1))), []⟩,
         ⟨2, some 8, none, .op .quiet (oMv (.tmp 16)), []⟩]))))))⟩
/-- slices.heapSortCmpFunc[tangram/api.Edge] -/
noncomputable def a336 : AF := ⟨[],
 (.seq
   (.ops [⟨0, some 13, none, .op .quiet (oMv (.tmp 1)), []⟩,
     ⟨1, some 8, none, .op .quiet (oMv (.tmp 13)), []⟩])
   (.seq
    (.ops [⟨0, some 9, none, .op .quiet (oMv (.val (.int .i64 0))), []⟩])
    (.seq
     (.ops [⟨0, some 14, none, .op .quiet (oMv (.tmp 2)), []⟩,
       ⟨1, some 15, none, .op .quiet (oMv (.tmp 1)), []⟩,
       ⟨2, some 16, none, .op .quiet (oArith .sub (.tmp 14) (.tmp 15)), []⟩,
       ⟨3, some 10, none, .op .quiet (oMv (.tmp 16)), []⟩])
     (.seq
      (.seq
       (.ops [⟨0, some 17, none, .op .quiet (oMv (.tmp 10)), []⟩,
         ⟨1, some 18, none, .op .quiet (oArith .sub (.tmp 17) (.val (.int .i64 1))), []⟩,
         ⟨2, some 19, none, .op .quiet (oArith .quo (.tmp 18) (.val (.int .i64 2))), []⟩,
         ⟨3, some 11, none, .op .quiet (oMv (.tmp 19)), []⟩])
       (.block 0
        (.loop
         (.seq
          (.seq
           (.ops [⟨0, some 20, none, .op .quiet (oMv (.tmp 11)), []⟩,
             ⟨1, some 21, none, .op .quiet (oArith .geq (.tmp 20) (.val (.int .i64 0))), []⟩])
           (.cond (.tmp 21)
            (.skip)
            (.exit 0)))
          (.seq
           (.block 1
            (.ops [⟨0, some 24, none, .op .quiet (oMv (.tmp 0)), []⟩,
              ⟨1, some 25, none, .op .quiet (oMv (.tmp 11)), []⟩,
              ⟨2, some 26, none, .op .quiet (oMv (.tmp 10)), []⟩,
              ⟨3, some 27, none, .op .quiet (oMv (.tmp 8)), []⟩,
              ⟨4, some 28, none, .op .quiet (oMv (.tmp 3)), []⟩,
              ⟨5, some 29, none, .callF 360 [(.tmp 24), (.tmp 25), (.tmp 26), (.tmp 27), (.tmp 28)], []⟩]))
           (.ops [⟨0, some 22, none, .op .quiet (oMv (.tmp 11)), []⟩,
             ⟨1, some 23, none, .op .quiet (oArith .sub (.tmp 22) (.val (.int .i64 1))), []⟩,
             ⟨2, some 11, none, .op .quiet (oMv (.tmp 23)), []⟩]))))))
      (.seq
       (.ops [⟨0, some 30, none, .op .quiet (oMv (.tmp 10)), []⟩,
         ⟨1, some 31, none, .op .quiet (oArith .sub (.tmp 30) (.val (.int .i64 1))), []⟩,
         ⟨2, some 12, none, .op .quiet (oMv (.tmp 31)), []⟩])
       (.block 2
        (.loop
         (.seq
          (.seq
           (.ops [⟨0, some 32, none, .op .quiet (oMv (.tmp 12)), []⟩,
             ⟨1, some 33, none, .op .quiet (oArith .geq (.tmp 32) (.val (.int .i64 0))), []⟩])
           (.cond (.tmp 33)
            (.skip)
            (.exit 2)))
          (.seq
           (.block 3
            (.seq
             (.drawn [⟨0, some 36, none, .op .quiet (oMv (.tmp 0)), []⟩,
               ⟨1, some 37, none, .op .quiet (oMv (.tmp 8)), []⟩,
               ⟨2, some 38, none, .op .quiet (oMv (.tmp 0)), []⟩,
               ⟨3, some 39, none, .op .quiet (oMv (.tmp 8)), []⟩,
               ⟨4, some 40, none, .op .quiet (oMv (.tmp 12)), []⟩,
               ⟨5, some 41, none, .op .quiet (oArith .add (.tmp 39) (.tmp 40)), []⟩,
               ⟨6, some 42, none, .op .quiet (oMv (.tmp 0)), []⟩,
               ⟨7, some 43, none, .op .quiet (oMv (.tmp 8)), []⟩,
               ⟨8, some 44, none, .op .quiet (oMv (.tmp 12)), []⟩,
               ⟨9, some 45, none, .op .quiet (oArith .add (.tmp 43) (.tmp 44)), []⟩,
               ⟨10, some 46, none, .op .quiet (oIdxS 2 (.tmp 42) (.tmp 45)), []⟩,
               ⟨11, some 47, none, .op .reads (oLoadN 2 (.tmp 46)), []⟩,
               ⟨12, some 48, none, .op .quiet (oMv (.tmp 0)), []⟩,
               ⟨13, some 49, none, .op .quiet (oMv (.tmp 8)), []⟩,
               ⟨14, some 50, none, .op .quiet (oIdxS 2 (.tmp 48) (.tmp 49)), []⟩,
               ⟨15, some 51, none, .op .reads (oLoadN 2 (.tmp 50)), []⟩,
               ⟨16, some 52, none, .op .quiet (oIdxS 2 (.tmp 36) (.tmp 37)), []⟩,
               ⟨17, none, none, .op .hard (oStore 2 (.tmp 52) (.tmp 47)), []⟩,
               ⟨18, some 53, none, .op .quiet (oIdxS 2 (.tmp 38) (.tmp 41)), []⟩,
               ⟨19, none, none, .op .hard (oStore 2 (.tmp 53) (.tmp 51)), []⟩])
             (.ops [⟨0, some 54, none, .op .quiet (oMv (.tmp 0)), []⟩,
               ⟨1, some 55, none, .op .quiet (oMv (.tmp 9)), []⟩,
               ⟨2, some 56, none, .op .quiet (oMv (.tmp 12)), []⟩,
               ⟨3, some 57, none, .op .quiet (oMv (.tmp 8)), []⟩,
               ⟨4, some 58, none, .op .quiet (oMv (.tmp 3)), []⟩,
               ⟨5, some 59, none, .callF 360 [(.tmp 54), (.tmp 55), (.tmp 56), (.tmp 57), (.tmp 58)], []⟩])))
           (.ops [⟨0, some 34, none, .op .quiet (oMv (.tmp 12)), []⟩,
             ⟨1, some 35, none, .op .quiet (oArith .sub (.tmp 34) (.val (.int .i64 1))), []⟩,
             ⟨2, some 12, none, .op .quiet (oMv (.tmp 35)), []⟩]))))))))))⟩
/-- slices.breakPatternsCmpFunc[tangram/api.Edge] -/
noncomputable def a337 : AF := ⟨[],
 (.seq
   (.ops [⟨0, some 13, none, .op .quiet (oMv (.tmp 2)), []⟩,
     ⟨1, some 14, none, .op .quiet (oMv (.tmp 1)), []⟩,
     ⟨2, some 15, none, .op .quiet (oArith .sub (.tmp 13) (.tmp 14)), []⟩,
     ⟨3, some 8, none, .op .quiet (oMv (.tmp 15)), []⟩])
   (.seq
    (.ops [⟨0, some 16, none, .op .quiet (oMv (.tmp 8)), []⟩,
      ⟨1, some 17, none, .op .quiet (oArith .geq (.tmp 16) (.val (.int .i64 8))), []⟩])
    (.cond (.tmp 17)
     (.seq
      (.ops [⟨0, some 18, none, .op .quiet (oMv (.tmp 8)), []⟩,
        ⟨1, some 19, none, .op .quiet (oConv .u64 (.tmp 18)), []⟩,
        ⟨2, some 9, none, .op .quiet (oAlloc [(.int .u64 0)]), []⟩,
        ⟨3, none, none, .op .hard (oStore 1 (.tmp 9) (.tmp 19)), []⟩])
      (.seq
       (.ops [⟨0, some 20, none, .op .quiet (oMv (.tmp 8)), []⟩,
         ⟨1, some 21, none, .callF 361 [(.tmp 20)], []⟩,
         ⟨2, some 10, none, .op .quiet (oMv (.tmp 21)), []⟩])
       (.seq
        (.ops [⟨0, some 22, none, .op .quiet (oMv (.tmp 1)), []⟩,
          ⟨1, some 23, none, .op .quiet (oMv (.tmp 8)), []⟩,
          ⟨2, some 24, none, .op .quiet (oArith .quo (.tmp 23) (.val (.int .i64 4))), []⟩,
          ⟨3, some 25, none, .op .quiet (oArith .mul (.tmp 24) (.val (.int .i64 2))), []⟩,
          ⟨4, some 26, none, .op .quiet (oArith .add (.tmp 22) (.tmp 25)), []⟩,
          ⟨5, some 27, none, .op .quiet (oArith .sub (.tmp 26) (.val (.int .i64 1))), []⟩,
          ⟨6, some 11, none, .op .quiet (oMv (.tmp 27)), []⟩])
        (.block 0
         (.loop
          (.seq
           (.seq
            (.ops [⟨0, some 28, none, .op .quiet (oMv (.tmp 11)), []⟩,
              ⟨1, some 29, none, .op .quiet (oMv (.tmp 1)), []⟩,
              ⟨2, some 30, none, .op .quiet (oMv (.tmp 8)), []⟩,
              ⟨3, some 31, none, .op .quiet (oArith .quo (.tmp 30) (.val (.int .i64 4))), []⟩,
              ⟨4, some 32, none, .op .quiet (oArith .mul (.tmp 31) (.val (.int .i64 2))), []⟩,
              ⟨5, some 33, none, .op .quiet (oArith .add (.tmp 29) (.tmp 32)), []⟩,
              ⟨6, some 34, none, .op .quiet (oArith .add (.tmp 33) (.val (.int .i64 1))), []⟩,
              ⟨7, some 35, none, .op .quiet (oArith .leq (.tmp 28) (.tmp 34)), []⟩])
            (.cond (.tmp 35)
             (.skip)
             (.exit 0)))
           (.seq
            (.block 1
             (.seq
              (.ops [⟨0, some 38, none, .callF 362 [(.tmp 9)], []⟩,
                ⟨1, some 39, none, .op .quiet (oMv (.tmp 10)), []⟩,
                ⟨2, some 40, none, .op .quiet (oArith .sub (.tmp 39) (.val (.int .u64 1))), []⟩,
                ⟨3, some 41, none, .op .quiet (oArith .and (.tmp 38) (.tmp 40)), []⟩,
                ⟨4, some 42, none, .op .quiet (oConv .i64 (.tmp 41)), []⟩,
                ⟨5, some 12, none, .op .quiet (oMv (.tmp 42)), []⟩])
              (.seq
               (.seq
                (.ops [⟨0, some 43, none, .op .quiet (oMv (.tmp 12)), []⟩,
                  ⟨1, some 44, none, .op .quiet (oMv (.tmp 8)), []⟩,
                  ⟨2, some 45, none, .op .quiet (oArith .geq (.tmp 43) (.tmp 44)), []⟩])
                (.cond (.tmp 45)
                 (.ops [⟨0, some 46, none, .op .quiet (oMv (.tmp 12)), []⟩,
                   ⟨1, some 47, none, .op .quiet (oMv (.tmp 8)), []⟩,
                   ⟨2, some 48, none, .op .quiet (oArith .sub (.tmp 46) (.tmp 47)), []⟩,
                   ⟨3, some 12, none, .op .quiet (oMv (.tmp 48)), []⟩])
                 (.skip)))
               (.drawn [⟨0, some 49, none, .op .quiet (oMv (.tmp 0)), []⟩,
                 ⟨1, some 50, none, .op .quiet (oMv (.tmp 11)), []⟩,
                 ⟨2, some 51, none, .op .quiet (oMv (.tmp 0)), []⟩,
                 ⟨3, some 52, none, .op .quiet (oMv (.tmp 1)), []⟩,
                 ⟨4, some 53, none, .op .quiet (oMv (.tmp 12)), []⟩,
                 ⟨5, some 54, none, .op .quiet (oArith .add (.tmp 52) (.tmp 53)), []⟩,
                 ⟨6, some 55, none, .op .quiet (oMv (.tmp 0)), []⟩,
                 ⟨7, some 56, none, .op .quiet (oMv (.tmp 1)), []⟩,
                 ⟨8, some 57, none, .op .quiet (oMv (.tmp 12)), []⟩,
                 ⟨9, some 58, none, .op .quiet (oArith .add (.tmp 56) (.tmp 57)), []⟩,
                 ⟨10, some 59, none, .op .quiet (oIdxS 2 (.tmp 55) (.tmp 58)), []⟩,
                 ⟨11, some 60, none, .op .reads (oLoadN 2 (.tmp 59)), []⟩,
                 ⟨12, some 61, none, .op .quiet (oMv (.tmp 0)), []⟩,
                 ⟨13, some 62, none, .op .quiet (oMv (.tmp 11)), []⟩,
                 ⟨14, some 63, none, .op .quiet (oIdxS 2 (.tmp 61) (.tmp 62)), []⟩,
                 ⟨15, some 64, none, .op .reads (oLoadN 2 (.tmp 63)), []⟩,
                 ⟨16, some 65, none, .op .quiet (oIdxS 2 (.tmp 49) (.tmp 50)), []⟩,
                 ⟨17, none, none, .op .hard (oStore 2 (.tmp 65) (.tmp 60)), []⟩,
                 ⟨18, some 66, none, .op .quiet (oIdxS 2 (.tmp 51) (.tmp 54)), []⟩,
                 ⟨19, none, none, .op .hard (oStore 2 (.tmp 66) (.tmp 64)), []⟩]))))
            (.ops [⟨0, some 36, none, .op .quiet (oMv (.tmp 11)), []⟩,
              ⟨1, some 37, none, .op .quiet (oArith .add (.tmp 36) (.val (.int .i64 1))), []⟩,
              ⟨2, some 11, none, .op .quiet (oMv (.tmp 37)), []⟩]))))))))
     (.skip))))⟩
/-- slices.choosePivotCmpFunc[tangram/api.Edge] -/
noncomputable def a338 : AF := ⟨[.tmp 8, .tmp 9],
 (.seq
   (.ops [⟨0, some 8, none, .op .quiet (oMv (.val (.int .i64 0))), []⟩,
     ⟨1, some 9, none, .op .quiet (oMv (.val (.int .i64 0))), []⟩])
   (.seq
    (.ops [⟨0, some 15, none, .op .quiet (oMv (.tmp 2)), []⟩,
      ⟨1, some 16, none, .op .quiet (oMv (.tmp 1)), []⟩,
      ⟨2, some 17, none, .op .quiet (oArith .sub (.tmp 15) (.tmp 16)), []⟩,
      ⟨3, some 10, none, .op .quiet (oMv (.tmp 17)), []⟩])
    (.seq
     (.ops [⟨0, some 11, none, .op .quiet (oAlloc [(.int .i64 0)]), []⟩])
     (.seq
      (.ops [⟨0, some 18, none, .op .quiet (oMv (.tmp 1)), []⟩,
        ⟨1, some 19, none, .op .quiet (oMv (.tmp 10)), []⟩,
        ⟨2, some 20, none, .op .quiet (oArith .quo (.tmp 19) (.val (.int .i64 4))), []⟩,
        ⟨3, some 21, none, .op .quiet (oArith .mul (.tmp 20) (.val (.int .i64 1))), []⟩,
        ⟨4, some 22, none, .op .quiet (oArith .add (.tmp 18) (.tmp 21)), []⟩,
        ⟨5, some 12, none, .op .quiet (oMv (.tmp 22)), []⟩])
      (.seq
       (.ops [⟨0, some 23, none, .op .quiet (oMv (.tmp 1)), []⟩,
         ⟨1, some 24, none, .op .quiet (oMv (.tmp 10)), []⟩,
         ⟨2, some 25, none, .op .quiet (oArith .quo (.tmp 24) (.val (.int .i64 4))), []⟩,
         ⟨3, some 26, none, .op .quiet (oArith .mul (.tmp 25) (.val (.int .i64 2))), []⟩,
         ⟨4, some 27, none, .op .quiet (oArith .add (.tmp 23) (.tmp 26)), []⟩,
         ⟨5, some 13, none, .op .quiet (oMv (.tmp 27)), []⟩])
       (.seq
        (.ops [⟨0, some 28, none, .op .quiet (oMv (.tmp 1)), []⟩,
          ⟨1, some 29, none, .op .quiet (oMv (.tmp 10)), []⟩,
          ⟨2, some 30, none, .op .quiet (oArith .quo (.tmp 29) (.val (.int .i64 4))), []⟩,
          ⟨3, some 31, none, .op .quiet (oArith .mul (.tmp 30) (.val (.int .i64 3))), []⟩,
          ⟨4, some 32, none, .op .quiet (oArith .add (.tmp 28) (.tmp 31)), []⟩,
          ⟨5, some 14, none, .op .quiet (oMv (.tmp 32)), []⟩])
        (.seq
         (.seq
          (.ops [⟨0, some 33, none, .op .quiet (oMv (.tmp 10)), []⟩,
            ⟨1, some 34, none, .op .quiet (oArith .geq (.tmp 33) (.val (.int .i64 8))), []⟩])
          (.cond (.tmp 34)
           (.seq
            (.seq
             (.ops [⟨0, some 35, none, .op .quiet (oMv (.tmp 10)), []⟩,
               ⟨1, some 36, none, .op .quiet (oArith .geq (.tmp 35) (.val (.int .i64 50))), []⟩])
             (.cond (.tmp 36)
              (.seq
               (.ops [⟨0, some 37, none, .op .quiet (oMv (.tmp 0)), []⟩,
                 ⟨1, some 38, none, .op .quiet (oMv (.tmp 12)), []⟩,
                 ⟨2, some 39, none, .op .quiet (oMv (.tmp 3)), []⟩,
                 ⟨3, some 40, none, .callF 363 [(.tmp 37), (.tmp 38), (.tmp 11), (.tmp 39)], []⟩,
                 ⟨4, some 12, none, .op .quiet (oMv (.tmp 40)), []⟩])
               (.seq
                (.ops [⟨0, some 41, none, .op .quiet (oMv (.tmp 0)), []⟩,
                  ⟨1, some 42, none, .op .quiet (oMv (.tmp 13)), []⟩,
                  ⟨2, some 43, none, .op .quiet (oMv (.tmp 3)), []⟩,
                  ⟨3, some 44, none, .callF 363 [(.tmp 41), (.tmp 42), (.tmp 11), (.tmp 43)], []⟩,
                  ⟨4, some 13, none, .op .quiet (oMv (.tmp 44)), []⟩])
                (.ops [⟨0, some 45, none, .op .quiet (oMv (.tmp 0)), []⟩,
                  ⟨1, some 46, none, .op .quiet (oMv (.tmp 14)), []⟩,
                  ⟨2, some 47, none, .op .quiet (oMv (.tmp 3)), []⟩,
                  ⟨3, some 48, none, .callF 363 [(.tmp 45), (.tmp 46), (.tmp 11), (.tmp 47)], []⟩,
                  ⟨4, some 14, none, .op .quiet (oMv (.tmp 48)), []⟩])))
              (.skip)))
            (.ops [⟨0, some 49, none, .op .quiet (oMv (.tmp 0)), []⟩,
              ⟨1, some 50, none, .op .quiet (oMv (.tmp 12)), []⟩,
              ⟨2, some 51, none, .op .quiet (oMv (.tmp 13)), []⟩,
              ⟨3, some 52, none, .op .quiet (oMv (.tmp 14)), []⟩,
              ⟨4, some 53, none, .op .quiet (oMv (.tmp 3)), []⟩,
              ⟨5, some 54, none, .callF 364 [(.tmp 49), (.tmp 50), (.tmp 51), (.tmp 52), (.tmp 11), (.tmp 53)], []⟩,
              ⟨6, some 13, none, .op .quiet (oMv (.tmp 54)), []⟩]))
           (.skip)))
         (.seq
          (.ops [⟨0, some 55, none, .op .reads (oLoad (.tmp 11)), []⟩])
          (.block 0
           (.seq
            (.ops [⟨0, some 58, none, .op .quiet (oArith .eql (.tmp 55) (.val (.int .i64 0))), []⟩,
              ⟨1, some 57, none, .op .quiet (oMv (.tmp 58)), []⟩])
            (.cond (.tmp 57)
             (.seq
              (.ops [⟨0, some 59, none, .op .quiet (oMv (.tmp 13)), []⟩,
                ⟨1, some 8, none, .op .quiet (oMv (.tmp 59)), []⟩,
                ⟨2, some 9, none, .op .quiet (oMv (.val (.int .i64 1))), []⟩])
              (.ret))
             (.seq
              (.ops [⟨0, some 61, none, .op .quiet (oArith .eql (.tmp 55) (.val (.int .i64 12))), []⟩,
                ⟨1, some 60, none, .op .quiet (oMv (.tmp 61)), []⟩])
              (.cond (.tmp 60)
               (.seq
                (.ops [⟨0, some 62, none, .op .quiet (oMv (.tmp 13)), []⟩,
                  ⟨1, some 8, none, .op .quiet (oMv (.tmp 62)), []⟩,
                  ⟨2, some 9, none, .op .quiet (oMv (.val (.int .i64 2))), []⟩])
                (.ret))
               (.seq
                (.ops [⟨0, some 56, none, .op .quiet (oMv (.tmp 13)), []⟩,
                  ⟨1, some 8, none, .op .quiet (oMv (.tmp 56)), []⟩,
                  ⟨2, some 9, none, .op .quiet (oMv (.val (.int .i64 0))), []⟩])
                (.ret)))))))))))))))⟩
/-- slices.reverseRangeCmpFunc[tangram/api.Edge] -/
noncomputable def a339 : AF := ⟨[],
 (.seq
   (.ops [⟨0, some 10, none, .op .quiet (oMv (.tmp 1)), []⟩,
     ⟨1, some 8, none, .op .quiet (oMv (.tmp 10)), []⟩])
   (.seq
    (.ops [⟨0, some 11, none, .op .quiet (oMv (.tmp 2)), []⟩,
      ⟨1, some 12, none, .op .quiet (oArith .sub (.tmp 11) (.val (.int .i64 1))), []⟩,
      ⟨2, some 9, none, .op .quiet (oMv (.tmp 12)), []⟩])
    (.block 0
     (.loop
      (.seq
       (.seq
        (.ops [⟨0, some 13, none, .op .quiet (oMv (.tmp 8)), []⟩,
          ⟨1, some 14, none, .op .quiet (oMv (.tmp 9)), []⟩,
          ⟨2, some 15, none, .op .quiet (oArith .lss (.tmp 13) (.tmp 14)), []⟩])
        (.cond (.tmp 15)
         (.skip)
         (.exit 0)))
       (.block 1
        (.seq
         (.drawn [⟨0, some 16, none, .op .quiet (oMv (.tmp 0)), []⟩,
           ⟨1, some 17, none, .op .quiet (oMv (.tmp 8)), []⟩,
           ⟨2, some 18, none, .op .quiet (oMv (.tmp 0)), []⟩,
           ⟨3, some 19, none, .op .quiet (oMv (.tmp 9)), []⟩,
           ⟨4, some 20, none, .op .quiet (oMv (.tmp 0)), []⟩,
           ⟨5, some 21, none, .op .quiet (oMv (.tmp 9)), []⟩,
           ⟨6, some 22, none, .op .quiet (oIdxS 2 (.tmp 20) (.tmp 21)), []⟩,
           ⟨7, some 23, none, .op .reads (oLoadN 2 (.tmp 22)), []⟩,
           ⟨8, some 24, none, .op .quiet (oMv (.tmp 0)), []⟩,
           ⟨9, some 25, none, .op .quiet (oMv (.tmp 8)), []⟩,
           ⟨10, some 26, none, .op .quiet (oIdxS 2 (.tmp 24) (.tmp 25)), []⟩,
           ⟨11, some 27, none, .op .reads (oLoadN 2 (.tmp 26)), []⟩,
           ⟨12, some 28, none, .op .quiet (oIdxS 2 (.tmp 16) (.tmp 17)), []⟩,
           ⟨13, none, none, .op .hard (oStore 2 (.tmp 28) (.tmp 23)), []⟩,
           ⟨14, some 29, none, .op .quiet (oIdxS 2 (.tmp 18) (.tmp 19)), []⟩,
           ⟨15, none, none, .op .hard (oStore 2 (.tmp 29) (.tmp 27)), []⟩])
         (.seq
          (.ops [⟨0, some 30, none, .op .quiet (oMv (.tmp 8)), []⟩,
            ⟨1, some 31, none, .op .quiet (oArith .add (.tmp 30) (.val (.int .i64 1))), []⟩,
            ⟨2, some 8, none, .op .quiet (oMv (.tmp 31)), []⟩])
          (.ops [⟨0, some 32, none, .op .quiet (oMv (.tmp 9)), []⟩,
            ⟨1, some 33, none, .op .quiet (oArith .sub (.tmp 32) (.val (.int .i64 1))), []⟩,
            ⟨2, some 9, none, .op .quiet (oMv (.tmp 33)), []⟩])))))))))⟩
/-- slices.partialInsertionSortCmpFunc[tangram/api.Edge] -/
noncomputable def a340 : AF := ⟨[.tmp 8],
 (.seq
   (.ops [⟨0, some 8, none, .op .quiet (oMv (.val (.bool false))), []⟩])
   (.seq
    (.ops [⟨0, some 13, none, .op .quiet (oMv (.tmp 1)), []⟩,
      ⟨1, some 14, none, .op .quiet (oArith .add (.tmp 13) (.val (.int .i64 1))), []⟩,
      ⟨2, some 9, none, .op .quiet (oMv (.tmp 14)), []⟩])
    (.seq
     (.seq
      (.ops [⟨0, some 10, none, .op .quiet (oMv (.val (.int .i64 0))), []⟩])
      (.block 0
       (.loop
        (.seq
         (.seq
          (.ops [⟨0, some 15, none, .op .quiet (oMv (.tmp 10)), []⟩,
            ⟨1, some 16, none, .op .quiet (oArith .lss (.tmp 15) (.val (.int .i64 5))), []⟩])
          (.cond (.tmp 16)
           (.skip)
           (.exit 0)))
         (.seq
          (.block 1
           (.seq
            (.block 2
             (.loop
              (.seq
               (.seq
                (.drawn [⟨0, some 19, none, .op .quiet (oMv (.tmp 9)), []⟩,
                  ⟨1, some 20, none, .op .quiet (oMv (.tmp 2)), []⟩,
                  ⟨2, some 21, none, .op .quiet (oArith .lss (.tmp 19) (.tmp 20)), []⟩,
                  ⟨3, some 22, none, .op .quiet (oMv (.tmp 21)), []⟩,
                  ⟨4, some 23, some (22, true), .op .quiet (oMv (.tmp 3)), []⟩,
                  ⟨5, some 24, some (22, true), .op .quiet (oMv (.tmp 0)), []⟩,
                  ⟨6, some 25, some (22, true), .op .quiet (oMv (.tmp 9)), []⟩,
                  ⟨7, some 26, some (22, true), .op .quiet (oIdxS 2 (.tmp 24) (.tmp 25)), []⟩,
                  ⟨8, some 27, some (22, true), .op .reads (oLoadN 2 (.tmp 26)), []⟩,
                  ⟨9, some 28, some (22, true), .op .quiet (oMv (.tmp 0)), []⟩,
                  ⟨10, some 29, some (22, true), .op .quiet (oMv (.tmp 9)), []⟩,
                  ⟨11, some 30, some (22, true), .op .quiet (oArith .sub (.tmp 29) (.val (.int .i64 1))), []⟩,
                  ⟨12, some 31, some (22, true), .op .quiet (oIdxS 2 (.tmp 28) (.tmp 30)), []⟩,
                  ⟨13, some 32, some (22, true), .op .reads (oLoadN 2 (.tmp 31)), []⟩,
                  ⟨14, some 33, some (22, true), .call (.tmp 23) [(.tmp 27), (.tmp 32)], []⟩,
                  ⟨15, some 34, some (22, true), .op .quiet (oArith .lss (.tmp 33) (.val (.int .i64 0))), []⟩,
                  ⟨16, some 35, some (22, true), .op .quiet (oNot (.tmp 34)), []⟩,
                  ⟨17, some 36, none, .op .quiet (oPick (.tmp 22) (.tmp 35) (.val (.bool false))), []⟩])
                (.cond (.tmp 36)
                 (.skip)
                 (.exit 2)))
               (.block 3
                (.ops [⟨0, some 37, none, .op .quiet (oMv (.tmp 9)), []⟩,
                  ⟨1, some 38, none, .op .quiet (oArith .add (.tmp 37) (.val (.int .i64 1))), []⟩,
                  ⟨2, some 9, none, .op .quiet (oMv (.tmp 38)), []⟩])))))
            (.seq
             (.seq
              (.ops [⟨0, some 39, none, .op .quiet (oMv (.tmp 9)), []⟩,
                ⟨1, some 40, none, .op .quiet (oMv (.tmp 2)), []⟩,
                ⟨2, some 41, none, .op .quiet (oArith .eql (.tmp 39) (.tmp 40)), []⟩])
              (.cond (.tmp 41)
               (.seq
                (.ops [⟨0, some 8, none, .op .quiet (oMv (.val (.bool true))), []⟩])
                (.ret))
               (.skip)))
             (.seq
              (.seq
               (.ops [⟨0, some 42, none, .op .quiet (oMv (.tmp 2)), []⟩,
                 ⟨1, some 43, none, .op .quiet (oMv (.tmp 1)), []⟩,
                 ⟨2, some 44, none, .op .quiet (oArith .sub (.tmp 42) (.tmp 43)), []⟩,
                 ⟨3, some 45, none, .op .quiet (oArith .lss (.tmp 44) (.val (.int .i64 50))), []⟩])
               (.cond (.tmp 45)
                (.seq
                 (.ops [⟨0, some 8, none, .op .quiet (oMv (.val (.bool false))), []⟩])
                 (.ret))
                (.skip)))
              (.seq
               (.drawn [⟨0, some 46, none, .op .quiet (oMv (.tmp 0)), []⟩,
                 ⟨1, some 47, none, .op .quiet (oMv (.tmp 9)), []⟩,
                 ⟨2, some 48, none, .op .quiet (oMv (.tmp 0)), []⟩,
                 ⟨3, some 49, none, .op .quiet (oMv (.tmp 9)), []⟩,
                 ⟨4, some 50, none, .op .quiet (oArith .sub (.tmp 49) (.val (.int .i64 1))), []⟩,
                 ⟨5, some 51, none, .op .quiet (oMv (.tmp 0)), []⟩,
                 ⟨6, some 52, none, .op .quiet (oMv (.tmp 9)), []⟩,
                 ⟨7, some 53, none, .op .quiet (oArith .sub (.tmp 52) (.val (.int .i64 1))), []⟩,
                 ⟨8, some 54, none, .op .quiet (oIdxS 2 (.tmp 51) (.tmp 53)), []⟩,
                 ⟨9, some 55, none, .op .reads (oLoadN 2 (.tmp 54)), []⟩,
                 ⟨10, some 56, none, .op .quiet (oMv (.tmp 0)), []⟩,
                 ⟨11, some 57, none, .op .quiet (oMv (.tmp 9)), []⟩,
                 ⟨12, some 58, none, .op .quiet (oIdxS 2 (.tmp 56) (.tmp 57)), []⟩,
                 ⟨13, some 59, none, .op .reads (oLoadN 2 (.tmp 58)), []⟩,
                 ⟨14, some 60, none, .op .quiet (oIdxS 2 (.tmp 46) (.tmp 47)), []⟩,
                 ⟨15, none, none, .op .hard (oStore 2 (.tmp 60) (.tmp 55)), []⟩,
                 ⟨16, some 61, none, .op .quiet (oIdxS 2 (.tmp 48) (.tmp 50)), []⟩,
                 ⟨17, none, none, .op .hard (oStore 2 (.tmp 61) (.tmp 59)), []⟩])
               (.seq
                (.seq
                 (.ops [⟨0, some 62, none, .op .quiet (oMv (.tmp 9)), []⟩,
                   ⟨1, some 63, none, .op .quiet (oMv (.tmp 1)), []⟩,
                   ⟨2, some 64, none, .op .quiet (oArith .sub (.tmp 62) (.tmp 63)), []⟩,
                   ⟨3, some 65, none, .op .quiet (oArith .geq (.tmp 64) (.val (.int .i64 2))), []⟩])
                 (.cond (.tmp 65)
                  (.seq
                   (.ops [⟨0, some 66, none, .op .quiet (oMv (.tmp 9)), []⟩,
                     ⟨1, some 67, none, .op .quiet (oArith .sub (.tmp 66) (.val (.int .i64 1))), []⟩,
                     ⟨2, some 11, none, .op .quiet (oMv (.tmp 67)), []⟩])
                   (.block 4
                    (.loop
                     (.seq
                      (.seq
                       (.ops [⟨0, some 68, none, .op .quiet (oMv (.tmp 11)), []⟩,
                         ⟨1, some 69, none, .op .quiet (oArith .geq (.tmp 68) (.val (.int .i64 1))), []⟩])
                       (.cond (.tmp 69)
                        (.skip)
                        (.exit 4)))
                      (.seq
                       (.block 5
                        (.seq
                         (.seq
                          (.drawn [⟨0, some 72, none, .op .quiet (oMv (.tmp 3)), []⟩,
                            ⟨1, some 73, none, .op .quiet (oMv (.tmp 0)), []⟩,
                            ⟨2, some 74, none, .op .quiet (oMv (.tmp 11)), []⟩,
                            ⟨3, some 75, none, .op .quiet (oIdxS 2 (.tmp 73) (.tmp 74)), []⟩,
                            ⟨4, some 76, none, .op .reads (oLoadN 2 (.tmp 75)), []⟩,
                            ⟨5, some 77, none, .op .quiet (oMv (.tmp 0)), []⟩,
                            ⟨6, some 78, none, .op .quiet (oMv (.tmp 11)), []⟩,
                            ⟨7, some 79, none, .op .quiet (oArith .sub (.tmp 78) (.val (.int .i64 1))), []⟩,
                            ⟨8, some 80, none, .op .quiet (oIdxS 2 (.tmp 77) (.tmp 79)), []⟩,
                            ⟨9, some 81, none, .op .reads (oLoadN 2 (.tmp 80)), []⟩,
                            ⟨10, some 82, none, .call (.tmp 72) [(.tmp 76), (.tmp 81)], []⟩,
                            ⟨11, some 83, none, .op .quiet (oArith .lss (.tmp 82) (.val (.int .i64 0))), []⟩,
                            ⟨12, some 84, none, .op .quiet (oNot (.tmp 83)), []⟩])
                          (.cond (.tmp 84)
                           (.exit 4)
                           (.skip)))
                         (.drawn [⟨0, some 85, none, .op .quiet (oMv (.tmp 0)), []⟩,
                           ⟨1, some 86, none, .op .quiet (oMv (.tmp 11)), []⟩,
                           ⟨2, some 87, none, .op .quiet (oMv (.tmp 0)), []⟩,
                           ⟨3, some 88, none, .op .quiet (oMv (.tmp 11)), []⟩,
                           ⟨4, some 89, none, .op .quiet (oArith .sub (.tmp 88) (.val (.int .i64 1))), []⟩,
                           ⟨5, some 90, none, .op .quiet (oMv (.tmp 0)), []⟩,
                           ⟨6, some 91, none, .op .quiet (oMv (.tmp 11)), []⟩,
                           ⟨7, some 92, none, .op .quiet (oArith .sub (.tmp 91) (.val (.int .i64 1))), []⟩,
                           ⟨8, some 93, none, .op .quiet (oIdxS 2 (.tmp 90) (.tmp 92)), []⟩,
                           ⟨9, some 94, none, .op .reads (oLoadN 2 (.tmp 93)), []⟩,
                           ⟨10, some 95, none, .op .quiet (oMv (.tmp 0)), []⟩,
                           ⟨11, some 96, none, .op .quiet (oMv (.tmp 11)), []⟩,
                           ⟨12, some 97, none, .op .quiet (oIdxS 2 (.tmp 95) (.tmp 96)), []⟩,
                           ⟨13, some 98, none, .op .reads (oLoadN 2 (.tmp 97)), []⟩,
                           ⟨14, some 99, none, .op .quiet (oIdxS 2 (.tmp 85) (.tmp 86)), []⟩,
                           ⟨15, none, none, .op .hard (oStore 2 (.tmp 99) (.tmp 94)), []⟩,
                           ⟨16, some 100, none, .op .quiet (oIdxS 2 (.tmp 87) (.tmp 89)), []⟩,
                           ⟨17, none, none, .op .hard (oStore 2 (.tmp 100) (.tmp 98)), []⟩])))
                       (.ops [⟨0, some 70, none, .op .quiet (oMv (.tmp 11)), []⟩,
                         ⟨1, some 71, none, .op .quiet (oArith .sub (.tmp 70) (.val (.int .i64 1))), []⟩,
                         ⟨2, some 11, none, .op .quiet (oMv (.tmp 71)), []⟩]))))))
                  (.skip)))
                (.seq
                 (.ops [⟨0, some 101, none, .op .quiet (oMv (.tmp 2)), []⟩,
                   ⟨1, some 102, none, .op .quiet (oMv (.tmp 9)), []⟩,
                   ⟨2, some 103, none, .op .quiet (oArith .sub (.tmp 101) (.tmp 102)), []⟩,
                   ⟨3, some 104, none, .op .quiet (oArith .geq (.tmp 103) (.val (.int .i64 2))), []⟩])
                 (.cond (.tmp 104)
                  (.seq
                   (.ops [⟨0, some 105, none, .op .quiet (oMv (.tmp 9)), []⟩,
                     ⟨1, some 106, none, .op .quiet (oArith .add (.tmp 105) (.val (.int .i64 1))), []⟩,
                     ⟨2, some 12, none, .op .quiet (oMv (.tmp 106)), []⟩])
                   (.block 6
                    (.loop
                     (.seq
                      (.seq
                       (.ops [⟨0, some 107, none, .op .quiet (oMv (.tmp 12)), []⟩,
                         ⟨1, some 108, none, .op .quiet (oMv (.tmp 2)), []⟩,
                         ⟨2, some 109, none, .op .quiet (oArith .lss (.tmp 107) (.tmp 108)), []⟩])
                       (.cond (.tmp 109)
                        (.skip)
                        (.exit 6)))
                      (.seq
                       (.block 7
                        (.seq
                         (.seq
                          (.drawn [⟨0, some 112, none, .op .quiet (oMv (.tmp 3)), []⟩,
                            ⟨1, some 113, none, .op .quiet (oMv (.tmp 0)), []⟩,
                            ⟨2, some 114, none, .op .quiet (oMv (.tmp 12)), []⟩,
                            ⟨3, some 115, none, .op .quiet (oIdxS 2 (.tmp 113) (.tmp 114)), []⟩,
                            ⟨4, some 116, none, .op .reads (oLoadN 2 (.tmp 115)), []⟩,
                            ⟨5, some 117, none, .op .quiet (oMv (.tmp 0)), []⟩,
                            ⟨6, some 118, none, .op .quiet (oMv (.tmp 12)), []⟩,
                            ⟨7, some 119, none, .op .quiet (oArith .sub (.tmp 118) (.val (.int .i64 1))), []⟩,
                            ⟨8, some 120, none, .op .quiet (oIdxS 2 (.tmp 117) (.tmp 119)), []⟩,
                            ⟨9, some 121, none, .op .reads (oLoadN 2 (.tmp 120)), []⟩,
                            ⟨10, some 122, none, .call (.tmp 112) [(.tmp 116), (.tmp 121)], []⟩,
                            ⟨11, some 123, none, .op .quiet (oArith .lss (.tmp 122) (.val (.int .i64 0))), []⟩,
                            ⟨12, some 124, none, .op .quiet (oNot (.tmp 123)), []⟩])
                          (.cond (.tmp 124)
                           (.exit 6)
                           (.skip)))
                         (.drawn [⟨0, some 125, none, .op .quiet (oMv (.tmp 0)), []⟩,
                           ⟨1, some 126, none, .op .quiet (oMv (.tmp 12)), []⟩,
                           ⟨2, some 127, none, .op .quiet (oMv (.tmp 0)), []⟩,
                           ⟨3, some 128, none, .op .quiet (oMv (.tmp 12)), []⟩,
                           ⟨4, some 129, none, .op .quiet (oArith .sub (.tmp 128) (.val (.int .i64 1))), []⟩,
                           ⟨5, some 130, none, .op .quiet (oMv (.tmp 0)), []⟩,
                           ⟨6, some 131, none, .op .quiet (oMv (.tmp 12)), []⟩,
                           ⟨7, some 132, none, .op .quiet (oArith .sub (.tmp 131) (.val (.int .i64 1))), []⟩,
                           ⟨8, some 133, none, .op .quiet (oIdxS 2 (.tmp 130) (.tmp 132)), []⟩,
                           ⟨9, some 134, none, .op .reads (oLoadN 2 (.tmp 133)), []⟩,
                           ⟨10, some 135, none, .op .quiet (oMv (.tmp 0)), []⟩,
                           ⟨11, some 136, none, .op .quiet (oMv (.tmp 12)), []⟩,
                           ⟨12, some 137, none, .op .quiet (oIdxS 2 (.tmp 135) (.tmp 136)), []⟩,
                           ⟨13, some 138, none, .op .reads (oLoadN 2 (.tmp 137)), []⟩,
                           ⟨14, some 139, none, .op .quiet (oIdxS 2 (.tmp 125) (.tmp 126)), []⟩,
                           ⟨15, none, none, .op .hard (oStore 2 (.tmp 139) (.tmp 134)), []⟩,
                           ⟨16, some 140, none, .op .quiet (oIdxS 2 (.tmp 127) (.tmp 129)), []⟩,
                           ⟨17, none, none, .op .hard (oStore 2 (.tmp 140) (.tmp 138)), []⟩])))
                       (.ops [⟨0, some 110, none, .op .quiet (oMv (.tmp 12)), []⟩,
                         ⟨1, some 111, none, .op .quiet (oArith .add (.tmp 110) (.val (.int .i64 1))), []⟩,
                         ⟨2, some 12, none, .op .quiet (oMv (.tmp 111)), []⟩]))))))
                  (.skip)))))))))
          (.ops [⟨0, some 17, none, .op .quiet (oMv (.tmp 10)), []⟩,
            ⟨1, some 18, none, .op .quiet (oArith .add (.tmp 17) (.val (.int .i64 1))), []⟩,
            ⟨2, some 10, none, .op .quiet (oMv (.tmp 18)), []⟩]))))))
     (.seq
      (.ops [⟨0, some 8, none, .op .quiet (oMv (.val (.bool false))), []⟩])
      (.ret)))))⟩
/-- slices.partitionEqualCmpFunc[tangram/api.Edge] -/
noncomputable def a341 : AF := ⟨[.tmp 10],
 (.seq
   (.ops [⟨0, some 10, none, .op .quiet (oMv (.val (.int .i64 0))), []⟩])
   (.seq
    (.drawn [⟨0, some 13, none, .op .quiet (oMv (.tmp 0)), []⟩,
      ⟨1, some 14, none, .op .quiet (oMv (.tmp 1)), []⟩,
      ⟨2, some 15, none, .op .quiet (oMv (.tmp 0)), []⟩,
      ⟨3, some 16, none, .op .quiet (oMv (.tmp 3)), []⟩,
      ⟨4, some 17, none, .op .quiet (oMv (.tmp 0)), []⟩,
      ⟨5, some 18, none, .op .quiet (oMv (.tmp 3)), []⟩,
      ⟨6, some 19, none, .op .quiet (oIdxS 2 (.tmp 17) (.tmp 18)), []⟩,
      ⟨7, some 20, none, .op .reads (oLoadN 2 (.tmp 19)), []⟩,
      ⟨8, some 21, none, .op .quiet (oMv (.tmp 0)), []⟩,
      ⟨9, some 22, none, .op .quiet (oMv (.tmp 1)), []⟩,
      ⟨10, some 23, none, .op .quiet (oIdxS 2 (.tmp 21) (.tmp 22)), []⟩,
      ⟨11, some 24, none, .op .reads (oLoadN 2 (.tmp 23)), []⟩,
      ⟨12, some 25, none, .op .quiet (oIdxS 2 (.tmp 13) (.tmp 14)), []⟩,
      ⟨13, none, none, .op .hard (oStore 2 (.tmp 25) (.tmp 20)), []⟩,
      ⟨14, some 26, none, .op .quiet (oIdxS 2 (.tmp 15) (.tmp 16)), []⟩,
      ⟨15, none, none, .op .hard (oStore 2 (.tmp 26) (.tmp 24)), []⟩])
    (.seq
     (.ops [⟨0, some 27, none, .op .quiet (oMv (.tmp 1)), []⟩,
       ⟨1, some 28, none, .op .quiet (oArith .add (.tmp 27) (.val (.int .i64 1))), []⟩,
       ⟨2, some 29, none, .op .quiet (oMv (.tmp 2)), []⟩,
       ⟨3, some 30, none, .op .quiet (oArith .sub (.tmp 29) (.val (.int .i64 1))), []⟩,
       ⟨4, some 11, none, .op .quiet (oMv (.tmp 28)), []⟩,
       ⟨5, some 12, none, .op .quiet (oMv (.tmp 30)), []⟩])
     (.seq
      (.block 0
       (.loop
        (.block 1
         (.seq
          (.block 2
           (.loop
            (.seq
             (.seq
              (.drawn [⟨0, some 31, none, .op .quiet (oMv (.tmp 11)), []⟩,
                ⟨1, some 32, none, .op .quiet (oMv (.tmp 12)), []⟩,
                ⟨2, some 33, none, .op .quiet (oArith .leq (.tmp 31) (.tmp 32)), []⟩,
                ⟨3, some 34, none, .op .quiet (oMv (.tmp 33)), []⟩,
                ⟨4, some 35, some (34, true), .op .quiet (oMv (.tmp 4)), []⟩,
                ⟨5, some 36, some (34, true), .op .quiet (oMv (.tmp 0)), []⟩,
                ⟨6, some 37, some (34, true), .op .quiet (oMv (.tmp 1)), []⟩,
                ⟨7, some 38, some (34, true), .op .quiet (oIdxS 2 (.tmp 36) (.tmp 37)), []⟩,
                ⟨8, some 39, some (34, true), .op .reads (oLoadN 2 (.tmp 38)), []⟩,
                ⟨9, some 40, some (34, true), .op .quiet (oMv (.tmp 0)), []⟩,
                ⟨10, some 41, some (34, true), .op .quiet (oMv (.tmp 11)), []⟩,
                ⟨11, some 42, some (34, true), .op .quiet (oIdxS 2 (.tmp 40) (.tmp 41)), []⟩,
                ⟨12, some 43, some (34, true), .op .reads (oLoadN 2 (.tmp 42)), []⟩,
                ⟨13, some 44, some (34, true), .call (.tmp 35) [(.tmp 39), (.tmp 43)], []⟩,
                ⟨14, some 45, some (34, true), .op .quiet (oArith .lss (.tmp 44) (.val (.int .i64 0))), []⟩,
                ⟨15, some 46, some (34, true), .op .quiet (oNot (.tmp 45)), []⟩,
                ⟨16, some 47, none, .op .quiet (oPick (.tmp 34) (.tmp 46) (.val (.bool false))), []⟩])
              (.cond (.tmp 47)
               (.skip)
               (.exit 2)))
             (.block 3
              (.ops [⟨0, some 48, none, .op .quiet (oMv (.tmp 11)), []⟩,
                ⟨1, some 49, none, .op .quiet (oArith .add (.tmp 48) (.val (.int .i64 1))), []⟩,
                ⟨2, some 11, none, .op .quiet (oMv (.tmp 49)), []⟩])))))
          (.seq
           (.block 4
            (.loop
             (.seq
              (.seq
               (.drawn [⟨0, some 50, none, .op .quiet (oMv (.tmp 11)), []⟩,
                 ⟨1, some 51, none, .op .quiet (oMv (.tmp 12)), []⟩,
                 ⟨2, some 52, none, .op .quiet (oArith .leq (.tmp 50) (.tmp 51)), []⟩,
                 ⟨3, some 53, none, .op .quiet (oMv (.tmp 52)), []⟩,
                 ⟨4, some 54, some (53, true), .op .quiet (oMv (.tmp 4)), []⟩,
                 ⟨5, some 55, some (53, true), .op .quiet (oMv (.tmp 0)), []⟩,
                 ⟨6, some 56, some (53, true), .op .quiet (oMv (.tmp 1)), []⟩,
                 ⟨7, some 57, some (53, true), .op .quiet (oIdxS 2 (.tmp 55) (.tmp 56)), []⟩,
                 ⟨8, some 58, some (53, true), .op .reads (oLoadN 2 (.tmp 57)), []⟩,
                 ⟨9, some 59, some (53, true), .op .quiet (oMv (.tmp 0)), []⟩,
                 ⟨10, some 60, some (53, true), .op .quiet (oMv (.tmp 12)), []⟩,
                 ⟨11, some 61, some (53, true), .op .quiet (oIdxS 2 (.tmp 59) (.tmp 60)), []⟩,
                 ⟨12, some 62, some (53, true), .op .reads (oLoadN 2 (.tmp 61)), []⟩,
                 ⟨13, some 63, some (53, true), .call (.tmp 54) [(.tmp 58), (.tmp 62)], []⟩,
                 ⟨14, some 64, some (53, true), .op .quiet (oArith .lss (.tmp 63) (.val (.int .i64 0))), []⟩,
                 ⟨15, some 65, none, .op .quiet (oPick (.tmp 53) (.tmp 64) (.val (.bool false))), []⟩])
               (.cond (.tmp 65)
                (.skip)
                (.exit 4)))
              (.block 5
               (.ops [⟨0, some 66, none, .op .quiet (oMv (.tmp 12)), []⟩,
                 ⟨1, some 67, none, .op .quiet (oArith .sub (.tmp 66) (.val (.int .i64 1))), []⟩,
                 ⟨2, some 12, none, .op .quiet (oMv (.tmp 67)), []⟩])))))
           (.seq
            (.seq
             (.ops [⟨0, some 68, none, .op .quiet (oMv (.tmp 11)), []⟩,
               ⟨1, some 69, none, .op .quiet (oMv (.tmp 12)), []⟩,
               ⟨2, some 70, none, .op .quiet (oArith .gtr (.tmp 68) (.tmp 69)), []⟩])
             (.cond (.tmp 70)
              (.exit 0)
              (.skip)))
            (.seq
             (.drawn [⟨0, some 71, none, .op .quiet (oMv (.tmp 0)), []⟩,
               ⟨1, some 72, none, .op .quiet (oMv (.tmp 11)), []⟩,
               ⟨2, some 73, none, .op .quiet (oMv (.tmp 0)), []⟩,
               ⟨3, some 74, none, .op .quiet (oMv (.tmp 12)), []⟩,
               ⟨4, some 75, none, .op .quiet (oMv (.tmp 0)), []⟩,
               ⟨5, some 76, none, .op .quiet (oMv (.tmp 12)), []⟩,
               ⟨6, some 77, none, .op .quiet (oIdxS 2 (.tmp 75) (.tmp 76)), []⟩,
               ⟨7, some 78, none, .op .reads (oLoadN 2 (.tmp 77)), []⟩,
               ⟨8, some 79, none, .op .quiet (oMv (.tmp 0)), []⟩,
               ⟨9, some 80, none, .op .quiet (oMv (.tmp 11)), []⟩,
               ⟨10, some 81, none, .op .quiet (oIdxS 2 (.tmp 79) (.tmp 80)), []⟩,
               ⟨11, some 82, none, .op .reads (oLoadN 2 (.tmp 81)), []⟩,
               ⟨12, some 83, none, .op .quiet (oIdxS 2 (.tmp 71) (.tmp 72)), []⟩,
               ⟨13, none, none, .op .hard (oStore 2 (.tmp 83) (.tmp 78)), []⟩,
               ⟨14, some 84, none, .op .quiet (oIdxS 2 (.tmp 73) (.tmp 74)), []⟩,
               ⟨15, none, none, .op .hard (oStore 2 (.tmp 84) (.tmp 82)), []⟩])
             (.seq
              (.ops [⟨0, some 85, none, .op .quiet (oMv (.tmp 11)), []⟩,
                ⟨1, some 86, none, .op .quiet (oArith .add (.tmp 85) (.val (.int .i64 1))), []⟩,
                ⟨2, some 11, none, .op .quiet (oMv (.tmp 86)), []⟩])
              (.ops [⟨0, some 87, none, .op .quiet (oMv (.tmp 12)), []⟩,
                ⟨1, some 88, none, .op .quiet (oArith .sub (.tmp 87) (.val (.int .i64 1))), []⟩,
                ⟨2, some 12, none, .op .quiet (oMv (.tmp 88)), []⟩])))))))))
      (.seq
       (.ops [⟨0, some 89, none, .op .quiet (oMv (.tmp 11)), []⟩,
         ⟨1, some 10, none, .op .quiet (oMv (.tmp 89)), []⟩])
       (.ret))))))⟩
/-- slices.partitionCmpFunc[tangram/api.Edge] -/
noncomputable def a342 : AF := ⟨[.tmp 10, .tmp 11],
 (.seq
   (.ops [⟨0, some 10, none, .op .quiet (oMv (.val (.int .i64 0))), []⟩,
     ⟨1, some 11, none, .op .quiet (oMv (.val (.bool false))), []⟩])
   (.seq
    (.drawn [⟨0, some 14, none, .op .quiet (oMv (.tmp 0)), []⟩,
      ⟨1, some 15, none, .op .quiet (oMv (.tmp 1)), []⟩,
      ⟨2, some 16, none, .op .quiet (oMv (.tmp 0)), []⟩,
      ⟨3, some 17, none, .op .quiet (oMv (.tmp 3)), []⟩,
      ⟨4, some 18, none, .op .quiet (oMv (.tmp 0)), []⟩,
      ⟨5, some 19, none, .op .quiet (oMv (.tmp 3)), []⟩,
      ⟨6, some 20, none, .op .quiet (oIdxS 2 (.tmp 18) (.tmp 19)), []⟩,
      ⟨7, some 21, none, .op .reads (oLoadN 2 (.tmp 20)), []⟩,
      ⟨8, some 22, none, .op .quiet (oMv (.tmp 0)), []⟩,
      ⟨9, some 23, none, .op .quiet (oMv (.tmp 1)), []⟩,
      ⟨10, some 24, none, .op .quiet (oIdxS 2 (.tmp 22) (.tmp 23)), []⟩,
      ⟨11, some 25, none, .op .reads (oLoadN 2 (.tmp 24)), []⟩,
      ⟨12, some 26, none, .op .quiet (oIdxS 2 (.tmp 14) (.tmp 15)), []⟩,
      ⟨13, none, none, .op .hard (oStore 2 (.tmp 26) (.tmp 21)), []⟩,
      ⟨14, some 27, none, .op .quiet (oIdxS 2 (.tmp 16) (.tmp 17)), []⟩,
      ⟨15, none, none, .op .hard (oStore 2 (.tmp 27) (.tmp 25)), []⟩])
    (.seq
     (.ops [⟨0, some 28, none, .op .quiet (oMv (.tmp 1)), []⟩,
       ⟨1, some 29, none, .op .quiet (oArith .add (.tmp 28) (.val (.int .i64 1))), []⟩,
       ⟨2, some 30, none, .op .quiet (oMv (.tmp 2)), []⟩,
       ⟨3, some 31, none, .op .quiet (oArith .sub (.tmp 30) (.val (.int .i64 1))), []⟩,
       ⟨4, some 12, none, .op .quiet (oMv (.tmp 29)), []⟩,
       ⟨5, some 13, none, .op .quiet (oMv (.tmp 31)), []⟩])
     (.seq
      (.block 0
       (.loop
        (.seq
         (.seq
          (.drawn [⟨0, some 32, none, .op .quiet (oMv (.tmp 12)), []⟩,
            ⟨1, some 33, none, .op .quiet (oMv (.tmp 13)), []⟩,
            ⟨2, some 34, none, .op .quiet (oArith .leq (.tmp 32) (.tmp 33)), []⟩,
            ⟨3, some 35, none, .op .quiet (oMv (.tmp 34)), []⟩,
            ⟨4, some 36, some (35, true), .op .quiet (oMv (.tmp 4)), []⟩,
            ⟨5, some 37, some (35, true), .op .quiet (oMv (.tmp 0)), []⟩,
            ⟨6, some 38, some (35, true), .op .quiet (oMv (.tmp 12)), []⟩,
            ⟨7, some 39, some (35, true), .op .quiet (oIdxS 2 (.tmp 37) (.tmp 38)), []⟩,
            ⟨8, some 40, some (35, true), .op .reads (oLoadN 2 (.tmp 39)), []⟩,
            ⟨9, some 41, some (35, true), .op .quiet (oMv (.tmp 0)), []⟩,
            ⟨10, some 42, some (35, true), .op .quiet (oMv (.tmp 1)), []⟩,
            ⟨11, some 43, some (35, true), .op .quiet (oIdxS 2 (.tmp 41) (.tmp 42)), []⟩,
            ⟨12, some 44, some (35, true), .op .reads (oLoadN 2 (.tmp 43)), []⟩,
            ⟨13, some 45, some (35, true), .call (.tmp 36) [(.tmp 40), (.tmp 44)], []⟩,
            ⟨14, some 46, some (35, true), .op .quiet (oArith .lss (.tmp 45) (.val (.int .i64 0))), []⟩,
            ⟨15, some 47, none, .op .quiet (oPick (.tmp 35) (.tmp 46) (.val (.bool false))), []⟩])
          (.cond (.tmp 47)
           (.skip)
           (.exit 0)))
         (.block 1
          (.ops [⟨0, some 48, none, .op .quiet (oMv (.tmp 12)), []⟩,
            ⟨1, some 49, none, .op .quiet (oArith .add (.tmp 48) (.val (.int .i64 1))), []⟩,
            ⟨2, some 12, none, .op .quiet (oMv (.tmp 49)), []⟩])))))
      (.seq
       (.block 2
        (.loop
         (.seq
          (.seq
           (.drawn [⟨0, some 50, none, .op .quiet (oMv (.tmp 12)), []⟩,
             ⟨1, some 51, none, .op .quiet (oMv (.tmp 13)), []⟩,
             ⟨2, some 52, none, .op .quiet (oArith .leq (.tmp 50) (.tmp 51)), []⟩,
             ⟨3, some 53, none, .op .quiet (oMv (.tmp 52)), []⟩,
             ⟨4, some 54, some (53, true), .op .quiet (oMv (.tmp 4)), []⟩,
             ⟨5, some 55, some (53, true), .op .quiet (oMv (.tmp 0)), []⟩,
             ⟨6, some 56, some (53, true), .op .quiet (oMv (.tmp 13)), []⟩,
             ⟨7, some 57, some (53, true), .op .quiet (oIdxS 2 (.tmp 55) (.tmp 56)), []⟩,
             ⟨8, some 58, some (53, true), .op .reads (oLoadN 2 (.tmp 57)), []⟩,
             ⟨9, some 59, some (53, true), .op .quiet (oMv (.tmp 0)), []⟩,
             ⟨10, some 60, some (53, true), .op .quiet (oMv (.tmp 1)), []⟩,
             ⟨11, some 61, some (53, true), .op .quiet (oIdxS 2 (.tmp 59) (.tmp 60)), []⟩,
             ⟨12, some 62, some (53, true), .op .reads (oLoadN 2 (.tmp 61)), []⟩,
             ⟨13, some 63, some (53, true), .call (.tmp 54) [(.tmp 58), (.tmp 62)], []⟩,
             ⟨14, some 64, some (53, true), .op .quiet (oArith .lss (.tmp 63) (.val (.int .i64 0))), []⟩,
             ⟨15, some 65, some (53, true), .op .quiet (oNot (.tmp 64)), []⟩,
             ⟨16, some 66, none, .op .quiet (oPick (.tmp 53) (.tmp 65) (.val (.bool false))), []⟩])
           (.cond (.tmp 66)
            (.skip)
            (.exit 2)))
          (.block 3
           (.ops [⟨0, some 67, none, .op .quiet (oMv (.tmp 13)), []⟩,
             ⟨1, some 68, none, .op .quiet (oArith .sub (.tmp 67) (.val (.int .i64 1))), []⟩,
             ⟨2, some 13, none, .op .quiet (oMv (.tmp 68)), []⟩])))))
       (.seq
        (.seq
         (.ops [⟨0, some 69, none, .op .quiet (oMv (.tmp 12)), []⟩,
           ⟨1, some 70, none, .op .quiet (oMv (.tmp 13)), []⟩,
           ⟨2, some 71, none, .op .quiet (oArith .gtr (.tmp 69) (.tmp 70)), []⟩])
         (.cond (.tmp 71)
          (.seq
           (.drawn [⟨0, some 72, none, .op .quiet (oMv (.tmp 0)), []⟩,
             ⟨1, some 73, none, .op .quiet (oMv (.tmp 13)), []⟩,
             ⟨2, some 74, none, .op .quiet (oMv (.tmp 0)), []⟩,
             ⟨3, some 75, none, .op .quiet (oMv (.tmp 1)), []⟩,
             ⟨4, some 76, none, .op .quiet (oMv (.tmp 0)), []⟩,
             ⟨5, some 77, none, .op .quiet (oMv (.tmp 1)), []⟩,
             ⟨6, some 78, none, .op .quiet (oIdxS 2 (.tmp 76) (.tmp 77)), []⟩,
             ⟨7, some 79, none, .op .reads (oLoadN 2 (.tmp 78)), []⟩,
             ⟨8, some 80, none, .op .quiet (oMv (.tmp 0)), []⟩,
             ⟨9, some 81, none, .op .quiet (oMv (.tmp 13)), []⟩,
             ⟨10, some 82, none, .op .quiet (oIdxS 2 (.tmp 80) (.tmp 81)), []⟩,
             ⟨11, some 83, none, .op .reads (oLoadN 2 (.tmp 82)), []⟩,
             ⟨12, some 84, none, .op .quiet (oIdxS 2 (.tmp 72) (.tmp 73)), []⟩,
             ⟨13, none, none, .op .hard (oStore 2 (.tmp 84) (.tmp 79)), []⟩,
             ⟨14, some 85, none, .op .quiet (oIdxS 2 (.tmp 74) (.tmp 75)), []⟩,
             ⟨15, none, none, .op .hard (oStore 2 (.tmp 85) (.tmp 83)), []⟩])
           (.seq
            (.ops [⟨0, some 86, none, .op .quiet (oMv (.tmp 13)), []⟩,
              ⟨1, some 10, none, .op .quiet (oMv (.tmp 86)), []⟩,
              ⟨2, some 11, none, .op .quiet (oMv (.val (.bool true))), []⟩])
            (.ret)))
          (.skip)))
        (.seq
         (.drawn [⟨0, some 87, none, .op .quiet (oMv (.tmp 0)), []⟩,
           ⟨1, some 88, none, .op .quiet (oMv (.tmp 12)), []⟩,
           ⟨2, some 89, none, .op .quiet (oMv (.tmp 0)), []⟩,
           ⟨3, some 90, none, .op .quiet (oMv (.tmp 13)), []⟩,
           ⟨4, some 91, none, .op .quiet (oMv (.tmp 0)), []⟩,
           ⟨5, some 92, none, .op .quiet (oMv (.tmp 13)), []⟩,
           ⟨6, some 93, none, .op .quiet (oIdxS 2 (.tmp 91) (.tmp 92)), []⟩,
           ⟨7, some 94, none, .op .reads (oLoadN 2 (.tmp 93)), []⟩,
           ⟨8, some 95, none, .op .quiet (oMv (.tmp 0)), []⟩,
           ⟨9, some 96, none, .op .quiet (oMv (.tmp 12)), []⟩,
           ⟨10, some 97, none, .op .quiet (oIdxS 2 (.tmp 95) (.tmp 96)), []⟩,
           ⟨11, some 98, none, .op .reads (oLoadN 2 (.tmp 97)), []⟩,
           ⟨12, some 99, none, .op .quiet (oIdxS 2 (.tmp 87) (.tmp 88)), []⟩,
           ⟨13, none, none, .op .hard (oStore 2 (.tmp 99) (.tmp 94)), []⟩,
           ⟨14, some 100, none, .op .quiet (oIdxS 2 (.tmp 89) (.tmp 90)), []⟩,
           ⟨15, none, none, .op .hard (oStore 2 (.tmp 100) (.tmp 98)), []⟩])
         (.seq
          (.ops [⟨0, some 101, none, .op .quiet (oMv (.tmp 12)), []⟩,
            ⟨1, some 102, none, .op .quiet (oArith .add (.tmp 101) (.val (.int .i64 1))), []⟩,
            ⟨2, some 12, none, .op .quiet (oMv (.tmp 102)), []⟩])
          (.seq
           (.ops [⟨0, some 103, none, .op .quiet (oMv (.tmp 13)), []⟩,
             ⟨1, some 104, none, .op .quiet (oArith .sub (.tmp 103) (.val (.int .i64 1))), []⟩,
             ⟨2, some 13, none, .op .quiet (oMv (.tmp 104)), []⟩])
           (.seq
            (.block 4
             (.loop
              (.block 5
               (.seq
                (.block 6
                 (.loop
                  (.seq
                   (.seq
                    (.drawn [⟨0, some 105, none, .op .quiet (oMv (.tmp 12)), []⟩,
                      ⟨1, some 106, none, .op .quiet (oMv (.tmp 13)), []⟩,
                      ⟨2, some 107, none, .op .quiet (oArith .leq (.tmp 105) (.tmp 106)), []⟩,
                      ⟨3, some 108, none, .op .quiet (oMv (.tmp 107)), []⟩,
                      ⟨4, some 109, some (108, true), .op .quiet (oMv (.tmp 4)), []⟩,
                      ⟨5, some 110, some (108, true), .op .quiet (oMv (.tmp 0)), []⟩,
                      ⟨6, some 111, some (108, true), .op .quiet (oMv (.tmp 12)), []⟩,
                      ⟨7, some 112, some (108, true), .op .quiet (oIdxS 2 (.tmp 110) (.tmp 111)), []⟩,
                      ⟨8, some 113, some (108, true), .op .reads (oLoadN 2 (.tmp 112)), []⟩,
                      ⟨9, some 114, some (108, true), .op .quiet (oMv (.tmp 0)), []⟩,
                      ⟨10, some 115, some (108, true), .op .quiet (oMv (.tmp 1)), []⟩,
                      ⟨11, some 116, some (108, true), .op .quiet (oIdxS 2 (.tmp 114) (.tmp 115)), []⟩,
                      ⟨12, some 117, some (108, true), .op .reads (oLoadN 2 (.tmp 116)), []⟩,
                      ⟨13, some 118, some (108, true), .call (.tmp 109) [(.tmp 113), (.tmp 117)], []⟩,
                      ⟨14, some 119, some (108, true), .op .quiet (oArith .lss (.tmp 118) (.val (.int .i64 0))), []⟩,
                      ⟨15, some 120, none, .op .quiet (oPick (.tmp 108) (.tmp 119) (.val (.bool false))), []⟩])
                    (.cond (.tmp 120)
                     (.skip)
                     (.exit 6)))
                   (.block 7
                    (.ops [⟨0, some 121, none, .op .quiet (oMv (.tmp 12)), []⟩,
                      ⟨1, some 122, none, .op .quiet (oArith .add (.tmp 121) (.val (.int .i64 1))), []⟩,
                      ⟨2, some 12, none, .op .quiet (oMv (.tmp 122)), []⟩])))))
                (.seq
                 (.block 8
                  (.loop
                   (.seq
                    (.seq
                     (.drawn [⟨0, some 123, none, .op .quiet (oMv (.tmp 12)), []⟩,
                       ⟨1, some 124, none, .op .quiet (oMv (.tmp 13)), []⟩,
                       ⟨2, some 125, none, .op .quiet (oArith .leq (.tmp 123) (.tmp 124)), []⟩,
                       ⟨3, some 126, none, .op .quiet (oMv (.tmp 125)), []⟩,
                       ⟨4, some 127, some (126, true), .op .quiet (oMv (.tmp 4)), []⟩,
                       ⟨5, some 128, some (126, true), .op .quiet (oMv (.tmp 0)), []⟩,
                       ⟨6, some 129, some (126, true), .op .quiet (oMv (.tmp 13)), []⟩,
                       ⟨7, some 130, some (126, true), .op .quiet (oIdxS 2 (.tmp 128) (.tmp 129)), []⟩,
                       ⟨8, some 131, some (126, true), .op .reads (oLoadN 2 (.tmp 130)), []⟩,
                       ⟨9, some 132, some (126, true), .op .quiet (oMv (.tmp 0)), []⟩,
                       ⟨10, some 133, some (126, true), .op .quiet (oMv (.tmp 1)), []⟩,
                       ⟨11, some 134, some (126, true), .op .quiet (oIdxS 2 (.tmp 132) (.tmp 133)), []⟩,
                       ⟨12, some 135, some (126, true), .op .reads (oLoadN 2 (.tmp 134)), []⟩,
                       ⟨13, some 136, some (126, true), .call (.tmp 127) [(.tmp 131), (.tmp 135)], []⟩,
                       ⟨14, some 137, some (126, true), .op .quiet (oArith .lss (.tmp 136) (.val (.int .i64 0))), []⟩,
                       ⟨15, some 138, some (126, true), .op .quiet (oNot (.tmp 137)), []⟩,
                       ⟨16, some 139, none, .op .quiet (oPick (.tmp 126) (.tmp 138) (.val (.bool false))), []⟩])
                     (.cond (.tmp 139)
                      (.skip)
                      (.exit 8)))
                    (.block 9
                     (.ops [⟨0, some 140, none, .op .quiet (oMv (.tmp 13)), []⟩,
                       ⟨1, some 141, none, .op .quiet (oArith .sub (.tmp 140) (.val (.int .i64 1))), []⟩,
                       ⟨2, some 13, none, .op .quiet (oMv (.tmp 141)), []⟩])))))
                 (.seq
                  (.seq
                   (.ops [⟨0, some 142, none, .op .quiet (oMv (.tmp 12)), []⟩,
                     ⟨1, some 143, none, .op .quiet (oMv (.tmp 13)), []⟩,
                     ⟨2, some 144, none, .op .quiet (oArith .gtr (.tmp 142) (.tmp 143)), []⟩])
                   (.cond (.tmp 144)
                    (.exit 4)
                    (.skip)))
                  (.seq
                   (.drawn [⟨0, some 145, none, .op .quiet (oMv (.tmp 0)), []⟩,
                     ⟨1, some 146, none, .op .quiet (oMv (.tmp 12)), []⟩,
                     ⟨2, some 147, none, .op .quiet (oMv (.tmp 0)), []⟩,
                     ⟨3, some 148, none, .op .quiet (oMv (.tmp 13)), []⟩,
                     ⟨4, some 149, none, .op .quiet (oMv (.tmp 0)), []⟩,
                     ⟨5, some 150, none, .op .quiet (oMv (.tmp 13)), []⟩,
                     ⟨6, some 151, none, .op .quiet (oIdxS 2 (.tmp 149) (.tmp 150)), []⟩,
                     ⟨7, some 152, none, .op .reads (oLoadN 2 (.tmp 151)), []⟩,
                     ⟨8, some 153, none, .op .quiet (oMv (.tmp 0)), []⟩,
                     ⟨9, some 154, none, .op .quiet (oMv (.tmp 12)), []⟩,
                     ⟨10, some 155, none, .op .quiet (oIdxS 2 (.tmp 153) (.tmp 154)), []⟩,
                     ⟨11, some 156, none, .op .reads (oLoadN 2 (.tmp 155)), []⟩,
                     ⟨12, some 157, none, .op .quiet (oIdxS 2 (.tmp 145) (.tmp 146)), []⟩,
                     ⟨13, none, none, .op .hard (oStore 2 (.tmp 157) (.tmp 152)), []⟩,
                     ⟨14, some 158, none, .op .quiet (oIdxS 2 (.tmp 147) (.tmp 148)), []⟩,
                     ⟨15, none, none, .op .hard (oStore 2 (.tmp 158) (.tmp 156)), []⟩])
                   (.seq
                    (.ops [⟨0, some 159, none, .op .quiet (oMv (.tmp 12)), []⟩,
                      ⟨1, some 160, none, .op .quiet (oArith .add (.tmp 159) (.val (.int .i64 1))), []⟩,
                      ⟨2, some 12, none, .op .quiet (oMv (.tmp 160)), []⟩])
                    (.ops [⟨0, some 161, none, .op .quiet (oMv (.tmp 13)), []⟩,
                      ⟨1, some 162, none, .op .quiet (oArith .sub (.tmp 161) (.val (.int .i64 1))), []⟩,
                      ⟨2, some 13, none, .op .quiet (oMv (.tmp 162)), []⟩])))))))))
            (.seq
             (.drawn [⟨0, some 163, none, .op .quiet (oMv (.tmp 0)), []⟩,
               ⟨1, some 164, none, .op .quiet (oMv (.tmp 13)), []⟩,
               ⟨2, some 165, none, .op .quiet (oMv (.tmp 0)), []⟩,
               ⟨3, some 166, none, .op .quiet (oMv (.tmp 1)), []⟩,
               ⟨4, some 167, none, .op .quiet (oMv (.tmp 0)), []⟩,
               ⟨5, some 168, none, .op .quiet (oMv (.tmp 1)), []⟩,
               ⟨6, some 169, none, .op .quiet (oIdxS 2 (.tmp 167) (.tmp 168)), []⟩,
               ⟨7, some 170, none, .op .reads (oLoadN 2 (.tmp 169)), []⟩,
               ⟨8, some 171, none, .op .quiet (oMv (.tmp 0)), []⟩,
               ⟨9, some 172, none, .op .quiet (oMv (.tmp 13)), []⟩,
               ⟨10, some 173, none, .op .quiet (oIdxS 2 (.tmp 171) (.tmp 172)), []⟩,
               ⟨11, some 174, none, .op .reads (oLoadN 2 (.tmp 173)), []⟩,
               ⟨12, some 175, none, .op .quiet (oIdxS 2 (.tmp 163) (.tmp 164)), []⟩,
               ⟨13, none, none, .op .hard (oStore 2 (.tmp 175) (.tmp 170)), []⟩,
               ⟨14, some 176, none, .op .quiet (oIdxS 2 (.tmp 165) (.tmp 166)), []⟩,
               ⟨15, none, none, .op .hard (oStore 2 (.tmp 176) (.tmp 174)), []⟩])
             (.seq
              (.ops [⟨0, some 177, none, .op .quiet (oMv (.tmp 13)), []⟩,
                ⟨1, some 10, none, .op .quiet (oMv (.tmp 177)), []⟩,
                ⟨2, some 11, none, .op .quiet (oMv (.val (.bool false))), []⟩])
              (.ret)))))))))))))⟩
/-- math/bits.Len32 -/
noncomputable def a343 : AF := ⟨[.tmp 2],
 (.seq
   (.ops [⟨0, some 2, none, .op .quiet (oMv (.val (.int .i64 0))), []⟩])
   (.seq
    (.seq
     (.ops [⟨0, some 3, none, .op .quiet (oMv (.tmp 0)), []⟩,
       ⟨1, some 4, none, .op .quiet (oArith .geq (.tmp 3) (.val (.int .u32 65536))), []⟩])
     (.cond (.tmp 4)
      (.seq
       (.ops [⟨0, some 5, none, .op .quiet (oMv (.tmp 0)), []⟩,
         ⟨1, some 6, none, .op .quiet (oShift .shr (.tmp 5) (.val (.int .u64 16))), []⟩,
         ⟨2, some 0, none, .op .quiet (oMv (.tmp 6)), []⟩])
       (.ops [⟨0, some 2, none, .op .quiet (oMv (.val (.int .i64 16))), []⟩]))
      (.skip)))
    (.seq
     (.seq
      (.ops [⟨0, some 7, none, .op .quiet (oMv (.tmp 0)), []⟩,
        ⟨1, some 8, none, .op .quiet (oArith .geq (.tmp 7) (.val (.int .u32 256))), []⟩])
      (.cond (.tmp 8)
       (.seq
        (.ops [⟨0, some 9, none, .op .quiet (oMv (.tmp 0)), []⟩,
          ⟨1, some 10, none, .op .quiet (oShift .shr (.tmp 9) (.val (.int .u64 8))), []⟩,
          ⟨2, some 0, none, .op .quiet (oMv (.tmp 10)), []⟩])
        (.ops [⟨0, some 11, none, .op .quiet (oMv (.tmp 2)), []⟩,
          ⟨1, some 12, none, .op .quiet (oArith .add (.tmp 11) (.val (.int .i64 8))), []⟩,
          ⟨2, some 2, none, .op .quiet (oMv (.tmp 12)), []⟩]))
       (.skip)))
     (.seq
      (.ops [⟨0, some 13, none, .op .quiet (oMv (.tmp 2)), []⟩,
        ⟨1, some 14, none, .op .quiet (oMv (.tmp 0)), []⟩,
        ⟨2, some 15, none, .op .quiet (oConv .u8 (.tmp 14)), []⟩,
        ⟨3, some 16, none, .op .quiet (oIndexStr (.val (.string ⟨#[0, 1, 2, 2, 3, 3, 3, 3, 4, 4, 4, 4, 4, 4, 4, 4, 5, 5, 5, 5, 5, 5, 5, 5, 5, 5, 5, 5, 5, 5, 5, 5, 6, 6, 6, 6, 6, 6, 6, 6, 6, 6, 6, 6, 6, 6, 6, 6, 6, 6, 6, 6, 6, 6, 6, 6, 6, 6, 6, 6, 6, 6, 6, 6, 7, 7, 7, 7, 7, 7, 7, 7, 7, 7, 7, 7, 7, 7, 7, 7, 7, 7, 7, 7, 7, 7, 7, 7, 7, 7, 7, 7, 7, 7, 7, 7, 7, 7, 7, 7, 7, 7, 7, 7, 7, 7, 7, 7, 7, 7, 7, 7, 7, 7, 7, 7, 7, 7, 7, 7, 7, 7, 7, 7, 7, 7, 7, 7, 8, 8, 8, 8, 8, 8, 8, 8, 8, 8, 8, 8, 8, 8, 8, 8, 8, 8, 8, 8, 8, 8, 8, 8, 8, 8, 8, 8, 8, 8, 8, 8, 8, 8, 8, 8, 8, 8, 8, 8, 8, 8, 8, 8, 8, 8, 8, 8, 8, 8, 8, 8, 8, 8, 8, 8, 8, 8, 8, 8, 8, 8, 8, 8, 8, 8, 8, 8, 8, 8, 8, 8, 8, 8, 8, 8, 8, 8, 8, 8, 8, 8, 8, 8, 8, 8, 8, 8, 8, 8, 8, 8, 8, 8, 8, 8, 8, 8, 8, 8, 8, 8, 8, 8, 8, 8, 8, 8, 8, 8, 8, 8, 8, 8, 8, 8, 8, 8, 8, 8, 8, 8, 8, 8, 8, 8, 8, 8]⟩)) (.tmp 15)), []⟩,
        ⟨4, some 17, none, .op .quiet (oConv .i64 (.tmp 16)), []⟩,
        ⟨5, some 18, none, .op .quiet (oArith .add (.tmp 13) (.tmp 17)), []⟩,
        ⟨6, some 2, none, .op .quiet (oMv (.tmp 18)), []⟩])
      (.ret)))))⟩
/-- math/bits.Len64 -/
noncomputable def a344 : AF := ⟨[.tmp 2],
 (.seq
   (.ops [⟨0, some 2, none, .op .quiet (oMv (.val (.int .i64 0))), []⟩])
   (.seq
    (.seq
     (.ops [⟨0, some 3, none, .op .quiet (oMv (.tmp 0)), []⟩,
       ⟨1, some 4, none, .op .quiet (oArith .geq (.tmp 3) (.val (.int .u64 4294967296))), []⟩])
     (.cond (.tmp 4)
      (.seq
       (.ops [⟨0, some 5, none, .op .quiet (oMv (.tmp 0)), []⟩,
         ⟨1, some 6, none, .op .quiet (oShift .shr (.tmp 5) (.val (.int .u64 32))), []⟩,
         ⟨2, some 0, none, .op .quiet (oMv (.tmp 6)), []⟩])
       (.ops [⟨0, some 2, none, .op .quiet (oMv (.val (.int .i64 32))), []⟩]))
      (.skip)))
    (.seq
     (.seq
      (.ops [⟨0, some 7, none, .op .quiet (oMv (.tmp 0)), []⟩,
        ⟨1, some 8, none, .op .quiet (oArith .geq (.tmp 7) (.val (.int .u64 65536))), []⟩])
      (.cond (.tmp 8)
       (.seq
        (.ops [⟨0, some 9, none, .op .quiet (oMv (.tmp 0)), []⟩,
          ⟨1, some 10, none, .op .quiet (oShift .shr (.tmp 9) (.val (.int .u64 16))), []⟩,
          ⟨2, some 0, none, .op .quiet (oMv (.tmp 10)), []⟩])
        (.ops [⟨0, some 11, none, .op .quiet (oMv (.tmp 2)), []⟩,
          ⟨1, some 12, none, .op .quiet (oArith .add (.tmp 11) (.val (.int .i64 16))), []⟩,
          ⟨2, some 2, none, .op .quiet (oMv (.tmp 12)), []⟩]))
       (.skip)))
     (.seq
      (.seq
       (.ops [⟨0, some 13, none, .op .quiet (oMv (.tmp 0)), []⟩,
         ⟨1, some 14, none, .op .quiet (oArith .geq (.tmp 13) (.val (.int .u64 256))), []⟩])
       (.cond (.tmp 14)
        (.seq
         (.ops [⟨0, some 15, none, .op .quiet (oMv (.tmp 0)), []⟩,
           ⟨1, some 16, none, .op .quiet (oShift .shr (.tmp 15) (.val (.int .u64 8))), []⟩,
           ⟨2, some 0, none, .op .quiet (oMv (.tmp 16)), []⟩])
         (.ops [⟨0, some 17, none, .op .quiet (oMv (.tmp 2)), []⟩,
           ⟨1, some 18, none, .op .quiet (oArith .add (.tmp 17) (.val (.int .i64 8))), []⟩,
           ⟨2, some 2, none, .op .quiet (oMv (.tmp 18)), []⟩]))
        (.skip)))
      (.seq
       (.ops [⟨0, some 19, none, .op .quiet (oMv (.tmp 2)), []⟩,
         ⟨1, some 20, none, .op .quiet (oMv (.tmp 0)), []⟩,
         ⟨2, some 21, none, .op .quiet (oConv .u8 (.tmp 20)), []⟩,
         ⟨3, some 22, none, .op .quiet (oIndexStr (.val (.string ⟨#[0, 1, 2, 2, 3, 3, 3, 3, 4, 4, 4, 4, 4, 4, 4, 4, 5, 5, 5, 5, 5, 5, 5, 5, 5, 5, 5, 5, 5, 5, 5, 5, 6, 6, 6, 6, 6, 6, 6, 6, 6, 6, 6, 6, 6, 6, 6, 6, 6, 6, 6, 6, 6, 6, 6, 6, 6, 6, 6, 6, 6, 6, 6, 6, 7, 7, 7, 7, 7, 7, 7, 7, 7, 7, 7, 7, 7, 7, 7, 7, 7, 7, 7, 7, 7, 7, 7, 7, 7, 7, 7, 7, 7, 7, 7, 7, 7, 7, 7, 7, 7, 7, 7, 7, 7, 7, 7, 7, 7, 7, 7, 7, 7, 7, 7, 7, 7, 7, 7, 7, 7, 7, 7, 7, 7, 7, 7, 7, 8, 8, 8, 8, 8, 8, 8, 8, 8, 8, 8, 8, 8, 8, 8, 8, 8, 8, 8, 8, 8, 8, 8, 8, 8, 8, 8, 8, 8, 8, 8, 8, 8, 8, 8, 8, 8, 8, 8, 8, 8, 8, 8, 8, 8, 8, 8, 8, 8, 8, 8, 8, 8, 8, 8, 8, 8, 8, 8, 8, 8, 8, 8, 8, 8, 8, 8, 8, 8, 8, 8, 8, 8, 8, 8, 8, 8, 8, 8, 8, 8, 8, 8, 8, 8, 8, 8, 8, 8, 8, 8, 8, 8, 8, 8, 8, 8, 8, 8, 8, 8, 8, 8, 8, 8, 8, 8, 8, 8, 8, 8, 8, 8, 8, 8, 8, 8, 8, 8, 8, 8, 8, 8, 8, 8, 8, 8, 8]⟩)) (.tmp 21)), []⟩,
         ⟨4, some 23, none, .op .quiet (oConv .i64 (.tmp 22)), []⟩,
         ⟨5, some 24, none, .op .quiet (oArith .add (.tmp 19) (.tmp 23)), []⟩,
         ⟨6, some 2, none, .op .quiet (oMv (.tmp 24)), []⟩])
       (.ret))))))⟩
/-- (tangram/comps.parents).known -/
noncomputable def a345 : AF := ⟨[.tmp 4],
 (.seq
   (.ops [⟨0, some 4, none, .op .quiet (oMv (.val (.bool false))), []⟩])
   (.seq
    (.ops [⟨0, some 5, none, .op .quiet (oMv (.tmp 1)), []⟩,
      ⟨1, some 6, none, .op .quiet (oArith .geq (.tmp 5) (.val (.int .i64 0))), []⟩,
      ⟨2, some 7, none, .op .quiet (oMv (.tmp 6)), []⟩,
      ⟨3, some 8, some (7, true), .op .quiet (oMv (.tmp 1)), []⟩,
      ⟨4, some 9, some (7, true), .op .quiet (oMv (.tmp 0)), []⟩,
      ⟨5, some 10, some (7, true), .op .reads (oLen .slice (.tmp 9)), []⟩,
      ⟨6, some 11, some (7, true), .op .quiet (oArith .lss (.tmp 8) (.tmp 10)), []⟩,
      ⟨7, some 12, none, .op .quiet (oPick (.tmp 7) (.tmp 11) (.val (.bool false))), []⟩,
      ⟨8, some 4, none, .op .quiet (oMv (.tmp 12)), []⟩])
    (.ret)))⟩
/-- slices.insertionSortOrdered[int] -/
noncomputable def a351 : AF := ⟨[],
 (.seq
   (.ops [⟨0, some 8, none, .op .quiet (oMv (.tmp 1)), []⟩,
     ⟨1, some 9, none, .op .quiet (oArith .add (.tmp 8) (.val (.int .i64 1))), []⟩,
     ⟨2, some 6, none, .op .quiet (oMv (.tmp 9)), []⟩])
   (.block 0
    (.loop
     (.seq
      (.seq
       (.ops [⟨0, some 10, none, .op .quiet (oMv (.tmp 6)), []⟩,
         ⟨1, some 11, none, .op .quiet (oMv (.tmp 2)), []⟩,
         ⟨2, some 12, none, .op .quiet (oArith .lss (.tmp 10) (.tmp 11)), []⟩])
       (.cond (.tmp 12)
        (.skip)
        (.exit 0)))
      (.seq
       (.block 1
        (.seq
         (.ops [⟨0, some 15, none, .op .quiet (oMv (.tmp 6)), []⟩,
           ⟨1, some 7, none, .op .quiet (oMv (.tmp 15)), []⟩])
         (.block 2
          (.loop
           (.seq
            (.seq
             (.drawn [⟨0, some 16, none, .op .quiet (oMv (.tmp 7)), []⟩,
               ⟨1, some 17, none, .op .quiet (oMv (.tmp 1)), []⟩,
               ⟨2, some 18, none, .op .quiet (oArith .gtr (.tmp 16) (.tmp 17)), []⟩,
               ⟨3, some 19, none, .op .quiet (oMv (.tmp 18)), []⟩,
               ⟨4, some 20, some (19, true), .op .quiet (oMv (.tmp 0)), []⟩,
               ⟨5, some 21, some (19, true), .op .quiet (oMv (.tmp 7)), []⟩,
               ⟨6, some 22, some (19, true), .op .quiet (oIdxS 1 (.tmp 20) (.tmp 21)), []⟩,
               ⟨7, some 23, some (19, true), .op .reads (oLoad (.tmp 22)), []⟩,
               ⟨8, some 24, some (19, true), .op .quiet (oMv (.tmp 0)), []⟩,
               ⟨9, some 25, some (19, true), .op .quiet (oMv (.tmp 7)), []⟩,
               ⟨10, some 26, some (19, true), .op .quiet (oArith .sub (.tmp 25) (.val (.int .i64 1))), []⟩,
               ⟨11, some 27, some (19, true), .op .quiet (oIdxS 1 (.tmp 24) (.tmp 26)), []⟩,
               ⟨12, some 28, some (19, true), .op .reads (oLoad (.tmp 27)), []⟩,
               ⟨13, some 29, some (19, true), .callF 357 [(.tmp 23), (.tmp 28)], []⟩,
               ⟨14, some 30, none, .op .quiet (oPick (.tmp 19) (.tmp 29) (.val (.bool false))), []⟩])
             (.cond (.tmp 30)
              (.skip)
              (.exit 2)))
            (.seq
             (.block 3
              (.drawn [⟨0, some 33, none, .op .quiet (oMv (.tmp 0)), []⟩,
                ⟨1, some 34, none, .op .quiet (oMv (.tmp 7)), []⟩,
                ⟨2, some 35, none, .op .quiet (oMv (.tmp 0)), []⟩,
                ⟨3, some 36, none, .op .quiet (oMv (.tmp 7)), []⟩,
                ⟨4, some 37, none, .op .quiet (oArith .sub (.tmp 36) (.val (.int .i64 1))), []⟩,
                ⟨5, some 38, none, .op .quiet (oMv (.tmp 0)), []⟩,
                ⟨6, some 39, none, .op .quiet (oMv (.tmp 7)), []⟩,
                ⟨7, some 40, none, .op .quiet (oArith .sub (.tmp 39) (.val (.int .i64 1))), []⟩,
                ⟨8, some 41, none, .op .quiet (oIdxS 1 (.tmp 38) (.tmp 40)), []⟩,
                ⟨9, some 42, none, .op .reads (oLoad (.tmp 41)), []⟩,
                ⟨10, some 43, none, .op .quiet (oMv (.tmp 0)), []⟩,
                ⟨11, some 44, none, .op .quiet (oMv (.tmp 7)), []⟩,
                ⟨12, some 45, none, .op .quiet (oIdxS 1 (.tmp 43) (.tmp 44)), []⟩,
                ⟨13, some 46, none, .op .reads (oLoad (.tmp 45)), []⟩,
                ⟨14, some 47, none, .op .quiet (oIdxS 1 (.tmp 33) (.tmp 34)), []⟩,
                ⟨15, none, none, .op .hard (oStore 1 (.tmp 47) (.tmp 42)), []⟩,
                ⟨16, some 48, none, .op .quiet (oIdxS 1 (.tmp 35) (.tmp 37)), []⟩,
                ⟨17, none, none, .op .hard (oStore 1 (.tmp 48) (.tmp 46)), []⟩]))
             (.ops [⟨0, some 31, none, .op .quiet (oMv (.tmp 7)), []⟩,
               ⟨1, some 32, none, .op .quiet (oArith .sub (.tmp 31) (.val (.int .i64 1))), []⟩,
               ⟨2, some 7, none, .op .quiet (oMv (.tmp 32)), []⟩])))))))
       (.ops [⟨0, some 13, none, .op .quiet (oMv (.tmp 6)), []⟩,
         ⟨1, some 14, none, .op .quiet (oArith .add (.tmp 13) (.val (.int .i64 1))), []⟩,
         ⟨2, some 6, none, .op .quiet (oMv (.tmp 14)), []⟩]))))))⟩
/-- slices.heapSortOrdered[int] -/
noncomputable def a352 : AF := ⟨[],
 (.seq
   (.ops [⟨0, some 11, none, .op .quiet (oMv (.tmp 1)), []⟩,
     ⟨1, some 6, none, .op .quiet (oMv (.tmp 11)), []⟩])
   (.seq
    (.ops [⟨0, some 7, none, .op .quiet (oMv (.val (.int .i64 0))), []⟩])
    (.seq
     (.ops [⟨0, some 12, none, .op .quiet (oMv (.tmp 2)), []⟩,
       ⟨1, some 13, none, .op .quiet (oMv (.tmp 1)), []⟩,
       ⟨2, some 14, none, .op .quiet (oArith .sub (.tmp 12) (.tmp 13)), []⟩,
       ⟨3, some 8, none, .op .quiet (oMv (.tmp 14)), []⟩])
     (.seq
      (.seq
       (.ops [⟨0, some 15, none, .op .quiet (oMv (.tmp 8)), []⟩,
         ⟨1, some 16, none, .op .quiet (oArith .sub (.tmp 15) (.val (.int .i64 1))), []⟩,
         ⟨2, some 17, none, .op .quiet (oArith .quo (.tmp 16) (.val (.int .i64 2))), []⟩,
         ⟨3, some 9, none, .op .quiet (oMv (.tmp 17)), []⟩])
       (.block 0
        (.loop
         (.seq
          (.seq
           (.ops [⟨0, some 18, none, .op .quiet (oMv (.tmp 9)), []⟩,
             ⟨1, some 19, none, .op .quiet (oArith .geq (.tmp 18) (.val (.int .i64 0))), []⟩])
           (.cond (.tmp 19)
            (.skip)
            (.exit 0)))
          (.seq
           (.block 1
            (.ops [⟨0, some 22, none, .op .quiet (oMv (.tmp 0)), []⟩,
              ⟨1, some 23, none, .op .quiet (oMv (.tmp 9)), []⟩,
              ⟨2, some 24, none, .op .quiet (oMv (.tmp 8)), []⟩,
              ⟨3, some 25, none, .op .quiet (oMv (.tmp 6)), []⟩,
              ⟨4, some 26, none, .callF 374 [(.tmp 22), (.tmp 23), (.tmp 24), (.tmp 25)], []⟩]))
           (.ops [⟨0, some 20, none, .op .quiet (oMv (.tmp 9)), []⟩,
             ⟨1, some 21, none, .op .quiet (oArith .sub (.tmp 20) (.val (.int .i64 1))), []⟩,
             ⟨2, some 9, none, .op .quiet (oMv (.tmp 21)), []⟩]))))))
      (.seq
       (.ops [⟨0, some 27, none, .op .quiet (oMv (.tmp 8)), []⟩,
         ⟨1, some 28, none, .op .quiet (oArith .sub (.tmp 27) (.val (.int .i64 1))), []⟩,
         ⟨2, some 10, none, .op .quiet (oMv (.tmp 28)), []⟩])
       (.block 2
        (.loop
         (.seq
          (.seq
           (.ops [⟨0, some 29, none, .op .quiet (oMv (.tmp 10)), []⟩,
             ⟨1, some 30, none, .op .quiet (oArith .geq (.tmp 29) (.val (.int .i64 0))), []⟩])
           (.cond (.tmp 30)
            (.skip)
            (.exit 2)))
          (.seq
           (.block 3
            (.seq
             (.drawn [⟨0, some 33, none, .op .quiet (oMv (.tmp 0)), []⟩,
               ⟨1, some 34, none, .op .quiet (oMv (.tmp 6)), []⟩,
               ⟨2, some 35, none, .op .quiet (oMv (.tmp 0)), []⟩,
               ⟨3, some 36, none, .op .quiet (oMv (.tmp 6)), []⟩,
               ⟨4, some 37, none, .op .quiet (oMv (.tmp 10)), []⟩,
               ⟨5, some 38, none, .op .quiet (oArith .add (.tmp 36) (.tmp 37)), []⟩,
               ⟨6, some 39, none, .op .quiet (oMv (.tmp 0)), []⟩,
               ⟨7, some 40, none, .op .quiet (oMv (.tmp 6)), []⟩,
               ⟨8, some 41, none, .op .quiet (oMv (.tmp 10)), []⟩,
               ⟨9, some 42, none, .op .quiet (oArith .add (.tmp 40) (.tmp 41)), []⟩,
               ⟨10, some 43, none, .op .quiet (oIdxS 1 (.tmp 39) (.tmp 42)), []⟩,
               ⟨11, some 44, none, .op .reads (oLoad (.tmp 43)), []⟩,
               ⟨12, some 45, none, .op .quiet (oMv (.tmp 0)), []⟩,
               ⟨13, some 46, none, .op .quiet (oMv (.tmp 6)), []⟩,
               ⟨14, some 47, none, .op .quiet (oIdxS 1 (.tmp 45) (.tmp 46)), []⟩,
               ⟨15, some 48, none, .op .reads (oLoad (.tmp 47)), []⟩,
               ⟨16, some 49, none, .op .quiet (oIdxS 1 (.tmp 33) (.tmp 34)), []⟩,
               ⟨17, none, none, .op .hard (oStore 1 (.tmp 49) (.tmp 44)), []⟩,
               ⟨18, some 50, none, .op .quiet (oIdxS 1 (.tmp 35) (.tmp 38)), []⟩,
               ⟨19, none, none, .op .hard (oStore 1 (.tmp 50) (.tmp 48)), []⟩])
             (.ops [⟨0, some 51, none, .op .quiet (oMv (.tmp 0)), []⟩,
               ⟨1, some 52, none, .op .quiet (oMv (.tmp 7)), []⟩,
               ⟨2, some 53, none, .op .quiet (oMv (.tmp 10)), []⟩,
               ⟨3, some 54, none, .op .quiet (oMv (.tmp 6)), []⟩,
               ⟨4, some 55, none, .callF 374 [(.tmp 51), (.tmp 52), (.tmp 53), (.tmp 54)], []⟩])))
           (.ops [⟨0, some 31, none, .op .quiet (oMv (.tmp 10)), []⟩,
             ⟨1, some 32, none, .op .quiet (oArith .sub (.tmp 31) (.val (.int .i64 1))), []⟩,
             ⟨2, some 10, none, .op .quiet (oMv (.tmp 32)), []⟩]))))))))))⟩
/-- slices.breakPatternsOrdered[int] -/
noncomputable def a353 : AF := ⟨[],
 (.seq
   (.ops [⟨0, some 11, none, .op .quiet (oMv (.tmp 2)), []⟩,
     ⟨1, some 12, none, .op .quiet (oMv (.tmp 1)), []⟩,
     ⟨2, some 13, none, .op .quiet (oArith .sub (.tmp 11) (.tmp 12)), []⟩,
     ⟨3, some 6, none, .op .quiet (oMv (.tmp 13)), []⟩])
   (.seq
    (.ops [⟨0, some 14, none, .op .quiet (oMv (.tmp 6)), []⟩,
      ⟨1, some 15, none, .op .quiet (oArith .geq (.tmp 14) (.val (.int .i64 8))), []⟩])
    (.cond (.tmp 15)
     (.seq
      (.ops [⟨0, some 16, none, .op .quiet (oMv (.tmp 6)), []⟩,
        ⟨1, some 17, none, .op .quiet (oConv .u64 (.tmp 16)), []⟩,
        ⟨2, some 7, none, .op .quiet (oAlloc [(.int .u64 0)]), []⟩,
        ⟨3, none, none, .op .hard (oStore 1 (.tmp 7) (.tmp 17)), []⟩])
      (.seq
       (.ops [⟨0, some 18, none, .op .quiet (oMv (.tmp 6)), []⟩,
         ⟨1, some 19, none, .callF 361 [(.tmp 18)], []⟩,
         ⟨2, some 8, none, .op .quiet (oMv (.tmp 19)), []⟩])
       (.seq
        (.ops [⟨0, some 20, none, .op .quiet (oMv (.tmp 1)), []⟩,
          ⟨1, some 21, none, .op .quiet (oMv (.tmp 6)), []⟩,
          ⟨2, some 22, none, .op .quiet (oArith .quo (.tmp 21) (.val (.int .i64 4))), []⟩,
          ⟨3, some 23, none, .op .quiet (oArith .mul (.tmp 22) (.val (.int .i64 2))), []⟩,
          ⟨4, some 24, none, .op .quiet (oArith .add (.tmp 20) (.tmp 23)), []⟩,
          ⟨5, some 25, none, .op .quiet (oArith .sub (.tmp 24) (.val (.int .i64 1))), []⟩,
          ⟨6, some 9, none, .op .quiet (oMv (.tmp 25)), []⟩])
        (.block 0
         (.loop
          (.seq
           (.seq
            (.ops [⟨0, some 26, none, .op .quiet (oMv (.tmp 9)), []⟩,
              ⟨1, some 27, none, .op .quiet (oMv (.tmp 1)), []⟩,
              ⟨2, some 28, none, .op .quiet (oMv (.tmp 6)), []⟩,
              ⟨3, some 29, none, .op .quiet (oArith .quo (.tmp 28) (.val (.int .i64 4))), []⟩,
              ⟨4, some 30, none, .op .quiet (oArith .mul (.tmp 29) (.val (.int .i64 2))), []⟩,
              ⟨5, some 31, none, .op .quiet (oArith .add (.tmp 27) (.tmp 30)), []⟩,
              ⟨6, some 32, none, .op .quiet (oArith .add (.tmp 31) (.val (.int .i64 1))), []⟩,
              ⟨7, some 33, none, .op .quiet (oArith .leq (.tmp 26) (.tmp 32)), []⟩])
            (.cond (.tmp 33)
             (.skip)
             (.exit 0)))
           (.seq
            (.block 1
             (.seq
              (.ops [⟨0, some 36, none, .callF 362 [(.tmp 7)], []⟩,
                ⟨1, some 37, none, .op .quiet (oMv (.tmp 8)), []⟩,
                ⟨2, some 38, none, .op .quiet (oArith .sub (.tmp 37) (.val (.int .u64 1))), []⟩,
                ⟨3, some 39, none, .op .quiet (oArith .and (.tmp 36) (.tmp 38)), []⟩,
                ⟨4, some 40, none, .op .quiet (oConv .i64 (.tmp 39)), []⟩,
                ⟨5, some 10, none, .op .quiet (oMv (.tmp 40)), []⟩])
              (.seq
               (.seq
                (.ops [⟨0, some 41, none, .op .quiet (oMv (.tmp 10)), []⟩,
                  ⟨1, some 42, none, .op .quiet (oMv (.tmp 6)), []⟩,
                  ⟨2, some 43, none, .op .quiet (oArith .geq (.tmp 41) (.tmp 42)), []⟩])
                (.cond (.tmp 43)
                 (.ops [⟨0, some 44, none, .op .quiet (oMv (.tmp 10)), []⟩,
                   ⟨1, some 45, none, .op .quiet (oMv (.tmp 6)), []⟩,
                   ⟨2, some 46, none, .op .quiet (oArith .sub (.tmp 44) (.tmp 45)), []⟩,
                   ⟨3, some 10, none, .op .quiet (oMv (.tmp 46)), []⟩])
                 (.skip)))
               (.drawn [⟨0, some 47, none, .op .quiet (oMv (.tmp 0)), []⟩,
                 ⟨1, some 48, none, .op .quiet (oMv (.tmp 9)), []⟩,
                 ⟨2, some 49, none, .op .quiet (oMv (.tmp 0)), []⟩,
                 ⟨3, some 50, none, .op .quiet (oMv (.tmp 1)), []⟩,
                 ⟨4, some 51, none, .op .quiet (oMv (.tmp 10)), []⟩,
                 ⟨5, some 52, none, .op .quiet (oArith .add (.tmp 50) (.tmp 51)), []⟩,
                 ⟨6, some 53, none, .op .quiet (oMv (.tmp 0)), []⟩,
                 ⟨7, some 54, none, .op .quiet (oMv (.tmp 1)), []⟩,
                 ⟨8, some 55, none, .op .quiet (oMv (.tmp 10)), []⟩,
                 ⟨9, some 56, none, .op .quiet (oArith .add (.tmp 54) (.tmp 55)), []⟩,
                 ⟨10, some 57, none, .op .quiet (oIdxS 1 (.tmp 53) (.tmp 56)), []⟩,
                 ⟨11, some 58, none, .op .reads (oLoad (.tmp 57)), []⟩,
                 ⟨12, some 59, none, .op .quiet (oMv (.tmp 0)), []⟩,
                 ⟨13, some 60, none, .op .quiet (oMv (.tmp 9)), []⟩,
                 ⟨14, some 61, none, .op .quiet (oIdxS 1 (.tmp 59) (.tmp 60)), []⟩,
                 ⟨15, some 62, none, .op .reads (oLoad (.tmp 61)), []⟩,
                 ⟨16, some 63, none, .op .quiet (oIdxS 1 (.tmp 47) (.tmp 48)), []⟩,
                 ⟨17, none, none, .op .hard (oStore 1 (.tmp 63) (.tmp 58)), []⟩,
                 ⟨18, some 64, none, .op .quiet (oIdxS 1 (.tmp 49) (.tmp 52)), []⟩,
                 ⟨19, none, none, .op .hard (oStore 1 (.tmp 64) (.tmp 62)), []⟩]))))
            (.ops [⟨0, some 34, none, .op .quiet (oMv (.tmp 9)), []⟩,
              ⟨1, some 35, none, .op .quiet (oArith .add (.tmp 34) (.val (.int .i64 1))), []⟩,
              ⟨2, some 9, none, .op .quiet (oMv (.tmp 35)), []⟩]))))))))
     (.skip))))⟩
/-- slices.choosePivotOrdered[int] -/
noncomputable def a354 : AF := ⟨[.tmp 6, .tmp 7],
 (.seq
   (.ops [⟨0, some 6, none, .op .quiet (oMv (.val (.int .i64 0))), []⟩,
     ⟨1, some 7, none, .op .quiet (oMv (.val (.int .i64 0))), []⟩])
   (.seq
    (.ops [⟨0, some 13, none, .op .quiet (oMv (.tmp 2)), []⟩,
      ⟨1, some 14, none, .op .quiet (oMv (.tmp 1)), []⟩,
      ⟨2, some 15, none, .op .quiet (oArith .sub (.tmp 13) (.tmp 14)), []⟩,
      ⟨3, some 8, none, .op .quiet (oMv (.tmp 15)), []⟩])
    (.seq
     (.ops [⟨0, some 9, none, .op .quiet (oAlloc [(.int .i64 0)]), []⟩])
     (.seq
      (.ops [⟨0, some 16, none, .op .quiet (oMv (.tmp 1)), []⟩,
        ⟨1, some 17, none, .op .quiet (oMv (.tmp 8)), []⟩,
        ⟨2, some 18, none, .op .quiet (oArith .quo (.tmp 17) (.val (.int .i64 4))), []⟩,
        ⟨3, some 19, none, .op .quiet (oArith .mul (.tmp 18) (.val (.int .i64 1))), []⟩,
        ⟨4, some 20, none, .op .quiet (oArith .add (.tmp 16) (.tmp 19)), []⟩,
        ⟨5, some 10, none, .op .quiet (oMv (.tmp 20)), []⟩])
      (.seq
       (.ops [⟨0, some 21, none, .op .quiet (oMv (.tmp 1)), []⟩,
         ⟨1, some 22, none, .op .quiet (oMv (.tmp 8)), []⟩,
         ⟨2, some 23, none, .op .quiet (oArith .quo (.tmp 22) (.val (.int .i64 4))), []⟩,
         ⟨3, some 24, none, .op .quiet (oArith .mul (.tmp 23) (.val (.int .i64 2))), []⟩,
         ⟨4, some 25, none, .op .quiet (oArith .add (.tmp 21) (.tmp 24)), []⟩,
         ⟨5, some 11, none, .op .quiet (oMv (.tmp 25)), []⟩])
       (.seq
        (.ops [⟨0, some 26, none, .op .quiet (oMv (.tmp 1)), []⟩,
          ⟨1, some 27, none, .op .quiet (oMv (.tmp 8)), []⟩,
          ⟨2, some 28, none, .op .quiet (oArith .quo (.tmp 27) (.val (.int .i64 4))), []⟩,
          ⟨3, some 29, none, .op .quiet (oArith .mul (.tmp 28) (.val (.int .i64 3))), []⟩,
          ⟨4, some 30, none, .op .quiet (oArith .add (.tmp 26) (.tmp 29)), []⟩,
          ⟨5, some 12, none, .op .quiet (oMv (.tmp 30)), []⟩])
        (.seq
         (.seq
          (.ops [⟨0, some 31, none, .op .quiet (oMv (.tmp 8)), []⟩,
            ⟨1, some 32, none, .op .quiet (oArith .geq (.tmp 31) (.val (.int .i64 8))), []⟩])
          (.cond (.tmp 32)
           (.seq
            (.seq
             (.ops [⟨0, some 33, none, .op .quiet (oMv (.tmp 8)), []⟩,
               ⟨1, some 34, none, .op .quiet (oArith .geq (.tmp 33) (.val (.int .i64 50))), []⟩])
             (.cond (.tmp 34)
              (.seq
               (.ops [⟨0, some 35, none, .op .quiet (oMv (.tmp 0)), []⟩,
                 ⟨1, some 36, none, .op .quiet (oMv (.tmp 10)), []⟩,
                 ⟨2, some 37, none, .callF 375 [(.tmp 35), (.tmp 36), (.tmp 9)], []⟩,
                 ⟨3, some 10, none, .op .quiet (oMv (.tmp 37)), []⟩])
               (.seq
                (.ops [⟨0, some 38, none, .op .quiet (oMv (.tmp 0)), []⟩,
                  ⟨1, some 39, none, .op .quiet (oMv (.tmp 11)), []⟩,
                  ⟨2, some 40, none, .callF 375 [(.tmp 38), (.tmp 39), (.tmp 9)], []⟩,
                  ⟨3, some 11, none, .op .quiet (oMv (.tmp 40)), []⟩])
                (.ops [⟨0, some 41, none, .op .quiet (oMv (.tmp 0)), []⟩,
                  ⟨1, some 42, none, .op .quiet (oMv (.tmp 12)), []⟩,
                  ⟨2, some 43, none, .callF 375 [(.tmp 41), (.tmp 42), (.tmp 9)], []⟩,
                  ⟨3, some 12, none, .op .quiet (oMv (.tmp 43)), []⟩])))
              (.skip)))
            (.ops [⟨0, some 44, none, .op .quiet (oMv (.tmp 0)), []⟩,
              ⟨1, some 45, none, .op .quiet (oMv (.tmp 10)), []⟩,
              ⟨2, some 46, none, .op .quiet (oMv (.tmp 11)), []⟩,
              ⟨3, some 47, none, .op .quiet (oMv (.tmp 12)), []⟩,
              ⟨4, some 48, none, .callF 376 [(.tmp 44), (.tmp 45), (.tmp 46), (.tmp 47), (.tmp 9)], []⟩,
              ⟨5, some 11, none, .op .quiet (oMv (.tmp 48)), []⟩]))
           (.skip)))
         (.seq
          (.ops [⟨0, some 49, none, .op .reads (oLoad (.tmp 9)), []⟩])
          (.block 0
           (.seq
            (.ops [⟨0, some 52, none, .op .quiet (oArith .eql (.tmp 49) (.val (.int .i64 0))), []⟩,
              ⟨1, some 51, none, .op .quiet (oMv (.tmp 52)), []⟩])
            (.cond (.tmp 51)
             (.seq
              (.ops [⟨0, some 53, none, .op .quiet (oMv (.tmp 11)), []⟩,
                ⟨1, some 6, none, .op .quiet (oMv (.tmp 53)), []⟩,
                ⟨2, some 7, none, .op .quiet (oMv (.val (.int .i64 1))), []⟩])
              (.ret))
             (.seq
              (.ops [⟨0, some 55, none, .op .quiet (oArith .eql (.tmp 49) (.val (.int .i64 12))), []⟩,
                ⟨1, some 54, none, .op .quiet (oMv (.tmp 55)), []⟩])
              (.cond (.tmp 54)
               (.seq
                (.ops [⟨0, some 56, none, .op .quiet (oMv (.tmp 11)), []⟩,
                  ⟨1, some 6, none, .op .quiet (oMv (.tmp 56)), []⟩,
                  ⟨2, some 7, none, .op .quiet (oMv (.val (.int .i64 2))), []⟩])
                (.ret))
               (.seq
                (.ops [⟨0, some 50, none, .op .quiet (oMv (.tmp 11)), []⟩,
                  ⟨1, some 6, none, .op .quiet (oMv (.tmp 50)), []⟩,
                  ⟨2, some 7, none, .op .quiet (oMv (.val (.int .i64 0))), []⟩])
                (.ret)))))))))))))))⟩
end Go.Proofs.YtjfppkhaiooloaaGreatDoor.On

/- The code of the functions, for the interpreter. -/
import Derived.Test.YtjfppkhaiooloaaGreatDoorAiB
namespace Go.Proofs.YtjfppkhaiooloaaGreatDoor.Gs
open Go.AI
set_option maxRecDepth 100000
/-- tangram/embed.signs -/
noncomputable def a179 : AF := ⟨[.tmp 6],
 (.seq
   (.ops [⟨0, some 3, none, .op .quiet (oBox (.tmp 0)), []⟩,
     ⟨1, some 4, none, .op .quiet (oBox (.tmp 1)), []⟩,
     ⟨2, some 6, none, .op .quiet (oMv (.val (.slice none 0 0))), []⟩])
   (.seq
    (.drawn [⟨0, some 17, none, .op .quiet (oMv (.tmp 2)), []⟩,
      ⟨1, some 18, none, .op .reads (oLen .slice (.tmp 17)), []⟩,
      ⟨2, some 19, none, .op .quiet (oMkSlice 1 8 [(.int .i64 0)] (.tmp 18) (.tmp 18)), []⟩,
      ⟨3, some 20, none, .op .quiet (oMv (.tmp 2)), []⟩,
      ⟨4, some 21, none, .op .reads (oLen .slice (.tmp 20)), []⟩,
      ⟨5, some 22, none, .op .quiet (oMkSlice 1 8 [(.int .i64 0)] (.tmp 21) (.tmp 21)), []⟩,
      ⟨6, some 7, none, .op .quiet (oMv (.tmp 19)), []⟩,
      ⟨7, some 8, none, .op .quiet (oMv (.tmp 22)), []⟩])
    (.seq
     (.seq
      (.ops [⟨0, some 23, none, .op .quiet (oMv (.tmp 7)), []⟩,
        ⟨1, some 24, none, .op .reads (oLen .slice (.tmp 23)), []⟩,
        ⟨2, some 25, none, .op .quiet (oMv (.val (.int .i64 0))), []⟩])
      (.block 0
       (.loop
        (.seq
         (.ops [⟨0, some 26, none, .op .quiet (oArith .lss (.tmp 25) (.tmp 24)), []⟩])
         (.seq
          (.cond (.tmp 26)
           (.skip)
           (.exit 0))
          (.seq
           (.block 1
            (.seq
             (.ops [⟨0, some 27, none, .op .quiet (oMv (.tmp 25)), []⟩,
               ⟨1, some 9, none, .op .quiet (oMv (.tmp 27)), []⟩])
             (.seq
              (.ops [⟨0, some 28, none, .op .quiet (oMv (.tmp 7)), []⟩,
                ⟨1, some 29, none, .op .quiet (oMv (.tmp 9)), []⟩,
                ⟨2, some 30, none, .op .quiet (oMv (.tmp 8)), []⟩,
                ⟨3, some 31, none, .op .quiet (oMv (.tmp 9)), []⟩,
                ⟨4, some 32, none, .op .quiet (oIdxS 1 (.tmp 28) (.tmp 29)), []⟩,
                ⟨5, none, none, .op .hard (oStore 1 (.tmp 32) (.val (.int .i64 1))), []⟩,
                ⟨6, some 33, none, .op .quiet (oIdxS 1 (.tmp 30) (.tmp 31)), []⟩,
                ⟨7, none, none, .op .hard (oStore 1 (.tmp 33) (.val (.int .i64 (-1)))), []⟩])
              (.seq
               (.ops [⟨0, some 34, none, .op .quiet (oMv (.tmp 2)), []⟩,
                 ⟨1, some 35, none, .op .quiet (oMv (.tmp 9)), []⟩,
                 ⟨2, some 36, none, .op .quiet (oIdxS 1 (.tmp 34) (.tmp 35)), []⟩,
                 ⟨3, some 37, none, .op .reads (oLoad (.tmp 36)), []⟩,
                 ⟨4, some 38, none, .op .quiet (oArith .neq (.tmp 37) (.val (.int .i64 0))), []⟩])
               (.cond (.tmp 38)
                (.ops [⟨0, some 39, none, .op .quiet (oMv (.tmp 7)), []⟩,
                  ⟨1, some 40, none, .op .quiet (oMv (.tmp 9)), []⟩,
                  ⟨2, some 41, none, .op .quiet (oMv (.tmp 2)), []⟩,
                  ⟨3, some 42, none, .op .quiet (oMv (.tmp 9)), []⟩,
                  ⟨4, some 43, none, .op .quiet (oIdxS 1 (.tmp 41) (.tmp 42)), []⟩,
                  ⟨5, some 44, none, .op .reads (oLoad (.tmp 43)), []⟩,
                  ⟨6, some 45, none, .op .quiet (oIdxS 1 (.tmp 39) (.tmp 40)), []⟩,
                  ⟨7, none, none, .op .hard (oStore 1 (.tmp 45) (.tmp 44)), []⟩])
                (.skip))))))
           (.ops [⟨0, some 46, none, .op .quiet (oArith .add (.tmp 25) (.val (.int .i64 1))), []⟩,
             ⟨1, some 25, none, .op .quiet (oMv (.tmp 46)), []⟩])))))))
     (.seq
      (.ops [⟨0, some 47, none, .op .reads (oLoadN 2 (.tmp 3)), []⟩,
        ⟨1, some 48, none, .op .reads (oLoadN 4 (.tmp 4)), []⟩,
        ⟨2, some 49, none, .op .quiet (oBuild [(.int .i64 0), (.slice none 0 0), (.slice none 0 0), (.slice none 0 0), (.slice none 0 0), (.slice none 0 0), (.slice none 0 0), (.slice none 0 0), (.slice none 0 0), (.slice none 0 0), (.slice none 0 0)] [(0, 2), (2, 4)] [(.tmp 47), (.tmp 48)]), []⟩,
        ⟨3, some 50, none, .op .quiet (oBox (.tmp 49)), []⟩,
        ⟨4, some 10, none, .op .quiet (oMv (.tmp 50)), []⟩])
      (.seq
       (.seq
        (.ops [⟨0, some 51, none, .op .quiet (oMv (.tmp 2)), []⟩,
          ⟨1, some 52, none, .op .reads (oLen .slice (.tmp 51)), []⟩,
          ⟨2, some 53, none, .op .quiet (oMv (.val (.int .i64 0))), []⟩])
        (.block 2
         (.loop
          (.seq
           (.ops [⟨0, some 54, none, .op .quiet (oArith .lss (.tmp 53) (.tmp 52)), []⟩])
           (.seq
            (.cond (.tmp 54)
             (.skip)
             (.exit 2))
            (.seq
             (.block 3
              (.seq
               (.ops [⟨0, some 55, none, .op .quiet (oMv (.tmp 53)), []⟩,
                 ⟨1, some 56, none, .op .quiet (oIdxS 1 (.tmp 51) (.tmp 53)), []⟩,
                 ⟨2, some 57, none, .op .reads (oLoad (.tmp 56)), []⟩,
                 ⟨3, some 11, none, .op .quiet (oMv (.tmp 55)), []⟩,
                 ⟨4, some 12, none, .op .quiet (oMv (.tmp 57)), []⟩])
               (.seq
                (.seq
                 (.ops [⟨0, some 58, none, .op .quiet (oMv (.tmp 12)), []⟩,
                   ⟨1, some 59, none, .op .quiet (oArith .eql (.tmp 58) (.val (.int .i64 0))), []⟩])
                 (.cond (.tmp 59)
                  (.exit 3)
                  (.skip)))
                (.seq
                 (.ops [⟨0, some 61, none, .op .quiet (oMv (.tmp 10)), []⟩,
                   ⟨1, some 62, none, .op .quiet (oFieldAddr 3 (.tmp 4)), []⟩,
                   ⟨2, some 63, none, .op .reads (oLoad (.tmp 62)), []⟩,
                   ⟨3, some 64, none, .op .quiet (oMv (.tmp 11)), []⟩,
                   ⟨4, some 65, none, .op .quiet (oIdxS 1 (.tmp 63) (.tmp 64)), []⟩,
                   ⟨5, some 66, none, .op .reads (oLoad (.tmp 65)), []⟩,
                   ⟨6, some 67, none, .callF 288 [(.tmp 61), (.tmp 66)], []⟩,
                   ⟨7, some 60, none, .op .quiet (oMv (.tmp 67)), []⟩,
                   ⟨8, some 68, none, .op .quiet (oExtract 0 (.tmp 60)), []⟩,
                   ⟨9, some 69, none, .op .quiet (oExtract 1 (.tmp 60)), []⟩,
                   ⟨10, some 13, none, .op .quiet (oMv (.tmp 68)), []⟩,
                   ⟨11, some 14, none, .op .quiet (oMv (.tmp 69)), []⟩])
                 (.block 4
                  (.loop
                   (.seq
                    (.seq
                     (.ops [⟨0, some 70, none, .op .quiet (oFieldAddr 0 (.tmp 4)), []⟩,
                       ⟨1, some 71, none, .op .reads (oLoad (.tmp 70)), []⟩,
                       ⟨2, some 72, none, .op .quiet (oMv (.tmp 13)), []⟩,
                       ⟨3, some 73, none, .op .quiet (oIdxS 1 (.tmp 71) (.tmp 72)), []⟩,
                       ⟨4, some 74, none, .op .reads (oLoad (.tmp 73)), []⟩,
                       ⟨5, some 75, none, .op .quiet (oArith .geq (.tmp 74) (.val (.int .i64 0))), []⟩])
                     (.cond (.tmp 75)
                      (.skip)
                      (.exit 4)))
                    (.block 5
                     (.seq
                      (.ops [⟨0, some 76, none, .op .quiet (oFieldAddr 0 (.tmp 4)), []⟩,
                        ⟨1, some 77, none, .op .reads (oLoad (.tmp 76)), []⟩,
                        ⟨2, some 78, none, .op .quiet (oMv (.tmp 13)), []⟩,
                        ⟨3, some 79, none, .op .quiet (oIdxS 1 (.tmp 77) (.tmp 78)), []⟩,
                        ⟨4, some 80, none, .op .reads (oLoad (.tmp 79)), []⟩,
                        ⟨5, some 81, none, .op .quiet (oArith .quo (.tmp 80) (.val (.int .i64 2))), []⟩,
                        ⟨6, some 15, none, .op .quiet (oMv (.tmp 81)), []⟩])
                      (.seq
                       (.ops [⟨0, some 83, none, .op .quiet (oMv (.tmp 10)), []⟩,
                         ⟨1, some 84, none, .op .quiet (oFieldAddr 0 (.tmp 4)), []⟩,
                         ⟨2, some 85, none, .op .reads (oLoad (.tmp 84)), []⟩,
                         ⟨3, some 86, none, .op .quiet (oMv (.tmp 13)), []⟩,
                         ⟨4, some 87, none, .op .quiet (oIdxS 1 (.tmp 85) (.tmp 86)), []⟩,
                         ⟨5, some 88, none, .op .reads (oLoad (.tmp 87)), []⟩,
                         ⟨6, some 89, none, .callF 288 [(.tmp 83), (.tmp 88)], []⟩,
                         ⟨7, some 82, none, .op .quiet (oMv (.tmp 89)), []⟩,
                         ⟨8, some 90, none, .op .quiet (oExtract 0 (.tmp 82)), []⟩,
                         ⟨9, some 91, none, .op .quiet (oExtract 1 (.tmp 82)), []⟩,
                         ⟨10, some 13, none, .op .quiet (oMv (.tmp 90)), []⟩])
                       (.seq
                        (.seq
                         (.drawn [⟨0, some 92, none, .op .quiet (oFieldAddr 1 (.tmp 4)), []⟩,
                           ⟨1, some 93, none, .op .reads (oLoad (.tmp 92)), []⟩,
                           ⟨2, some 94, none, .op .quiet (oMv (.tmp 13)), []⟩,
                           ⟨3, some 95, none, .op .quiet (oIdxS 1 (.tmp 93) (.tmp 94)), []⟩,
                           ⟨4, some 96, none, .op .reads (oLoad (.tmp 95)), []⟩,
                           ⟨5, some 97, none, .op .quiet (oFieldAddr 1 (.tmp 4)), []⟩,
                           ⟨6, some 98, none, .op .reads (oLoad (.tmp 97)), []⟩,
                           ⟨7, some 99, none, .op .quiet (oMv (.tmp 14)), []⟩,
                           ⟨8, some 100, none, .op .quiet (oIdxS 1 (.tmp 98) (.tmp 99)), []⟩,
                           ⟨9, some 101, none, .op .reads (oLoad (.tmp 100)), []⟩,
                           ⟨10, some 102, none, .op .quiet (oArith .leq (.tmp 96) (.tmp 101)), []⟩])
                         (.cond (.tmp 102)
                          (.exit 4)
                          (.skip)))
                        (.seq
                         (.ops [⟨0, some 103, none, .op .quiet (oFieldAddr 1 (.tmp 4)), []⟩,
                           ⟨1, some 104, none, .op .reads (oLoad (.tmp 103)), []⟩,
                           ⟨2, some 105, none, .op .quiet (oMv (.tmp 14)), []⟩,
                           ⟨3, some 106, none, .op .quiet (oIdxS 1 (.tmp 104) (.tmp 105)), []⟩,
                           ⟨4, some 107, none, .op .reads (oLoad (.tmp 106)), []⟩,
                           ⟨5, some 16, none, .op .quiet (oMv (.tmp 107)), []⟩])
                         (.block 6
                          (.seq
                           (.ops [⟨0, some 109, none, .op .quiet (oMv (.tmp 16)), []⟩,
                             ⟨1, some 110, none, .op .quiet (oMv (.tmp 8)), []⟩,
                             ⟨2, some 111, none, .op .quiet (oMv (.tmp 15)), []⟩,
                             ⟨3, some 112, none, .op .quiet (oIdxS 1 (.tmp 110) (.tmp 111)), []⟩,
                             ⟨4, some 113, none, .op .reads (oLoad (.tmp 112)), []⟩,
                             ⟨5, some 114, none, .op .quiet (oArith .gtr (.tmp 109) (.tmp 113)), []⟩,
                             ⟨6, some 108, none, .op .quiet (oMv (.tmp 114)), []⟩])
                           (.cond (.tmp 108)
                            (.ops [⟨0, some 115, none, .op .quiet (oMv (.tmp 7)), []⟩,
                              ⟨1, some 116, none, .op .quiet (oMv (.tmp 15)), []⟩,
                              ⟨2, some 117, none, .op .quiet (oMv (.tmp 8)), []⟩,
                              ⟨3, some 118, none, .op .quiet (oMv (.tmp 15)), []⟩,
                              ⟨4, some 119, none, .op .quiet (oMv (.tmp 12)), []⟩,
                              ⟨5, some 120, none, .op .quiet (oMv (.tmp 16)), []⟩,
                              ⟨6, some 121, none, .op .quiet (oIdxS 1 (.tmp 115) (.tmp 116)), []⟩,
                              ⟨7, none, none, .op .hard (oStore 1 (.tmp 121) (.tmp 119)), []⟩,
                              ⟨8, some 122, none, .op .quiet (oIdxS 1 (.tmp 117) (.tmp 118)), []⟩,
                              ⟨9, none, none, .op .hard (oStore 1 (.tmp 122) (.tmp 120)), []⟩])
                            (.seq
                             (.ops [⟨0, some 124, none, .op .quiet (oMv (.tmp 16)), []⟩,
                               ⟨1, some 125, none, .op .quiet (oMv (.tmp 8)), []⟩,
                               ⟨2, some 126, none, .op .quiet (oMv (.tmp 15)), []⟩,
                               ⟨3, some 127, none, .op .quiet (oIdxS 1 (.tmp 125) (.tmp 126)), []⟩,
                               ⟨4, some 128, none, .op .reads (oLoad (.tmp 127)), []⟩,
                               ⟨5, some 129, none, .op .quiet (oArith .eql (.tmp 124) (.tmp 128)), []⟩,
                               ⟨6, some 123, none, .op .quiet (oMv (.tmp 129)), []⟩])
                             (.cond (.tmp 123)
                              (.ops [⟨0, some 130, none, .op .quiet (oMv (.tmp 7)), []⟩,
                                ⟨1, some 131, none, .op .quiet (oMv (.tmp 15)), []⟩,
                                ⟨2, some 132, none, .op .quiet (oMv (.tmp 7)), []⟩,
                                ⟨3, some 133, none, .op .quiet (oMv (.tmp 15)), []⟩,
                                ⟨4, some 134, none, .op .quiet (oIdxS 1 (.tmp 132) (.tmp 133)), []⟩,
                                ⟨5, some 135, none, .op .reads (oLoad (.tmp 134)), []⟩,
                                ⟨6, some 136, none, .op .quiet (oMv (.tmp 12)), []⟩,
                                ⟨7, some 137, none, .op .quiet (oMax (.tmp 135) [(.tmp 136)]), []⟩,
                                ⟨8, some 138, none, .op .quiet (oIdxS 1 (.tmp 130) (.tmp 131)), []⟩,
                                ⟨9, none, none, .op .hard (oStore 1 (.tmp 138) (.tmp 137)), []⟩])
                              (.skip))))))))))))))))))
             (.ops [⟨0, some 139, none, .op .quiet (oArith .add (.tmp 53) (.val (.int .i64 1))), []⟩,
               ⟨1, some 53, none, .op .quiet (oMv (.tmp 139)), []⟩])))))))
       (.seq
        (.ops [⟨0, some 140, none, .op .quiet (oMv (.tmp 7)), []⟩,
          ⟨1, some 6, none, .op .quiet (oMv (.tmp 140)), []⟩])
        (.ret)))))))⟩
/-- (*tangram/embed.ring).alone -/
noncomputable def a180 : AF := ⟨[],
 (.drawn [⟨0, some 6, none, .op .quiet (oMv (.tmp 0)), []⟩,
    ⟨1, some 7, none, .op .quiet (oNilCheck (.tmp 6)), []⟩,
    ⟨2, some 8, none, .op .quiet (oFieldAddr 8 (.tmp 7)), []⟩,
    ⟨3, some 9, none, .op .reads (oLoad (.tmp 8)), []⟩,
    ⟨4, some 10, none, .op .quiet (oMv (.tmp 1)), []⟩,
    ⟨5, some 11, none, .op .quiet (oMv (.tmp 0)), []⟩,
    ⟨6, some 12, none, .op .quiet (oNilCheck (.tmp 11)), []⟩,
    ⟨7, some 13, none, .op .quiet (oFieldAddr 6 (.tmp 12)), []⟩,
    ⟨8, some 14, none, .op .reads (oLoad (.tmp 13)), []⟩,
    ⟨9, some 15, none, .op .quiet (oMv (.tmp 2)), []⟩,
    ⟨10, some 16, none, .op .quiet (oMv (.tmp 0)), []⟩,
    ⟨11, some 17, none, .op .quiet (oNilCheck (.tmp 16)), []⟩,
    ⟨12, some 18, none, .op .quiet (oFieldAddr 7 (.tmp 17)), []⟩,
    ⟨13, some 19, none, .op .reads (oLoad (.tmp 18)), []⟩,
    ⟨14, some 20, none, .op .quiet (oMv (.tmp 2)), []⟩,
    ⟨15, some 21, none, .op .quiet (oMv (.tmp 2)), []⟩,
    ⟨16, some 22, none, .op .quiet (oMv (.tmp 2)), []⟩,
    ⟨17, some 23, none, .op .quiet (oMv (.tmp 2)), []⟩,
    ⟨18, some 24, none, .op .quiet (oIdxS 1 (.tmp 9) (.tmp 10)), []⟩,
    ⟨19, none, none, .op .hard (oStore 1 (.tmp 24) (.tmp 21)), []⟩,
    ⟨20, some 25, none, .op .quiet (oIdxS 1 (.tmp 14) (.tmp 15)), []⟩,
    ⟨21, none, none, .op .hard (oStore 1 (.tmp 25) (.tmp 22)), []⟩,
    ⟨22, some 26, none, .op .quiet (oIdxS 1 (.tmp 19) (.tmp 20)), []⟩,
    ⟨23, none, none, .op .hard (oStore 1 (.tmp 26) (.tmp 23)), []⟩])⟩
/-- tangram/embed.sorted -/
noncomputable def a181 : AF := ⟨[.tmp 4],
 (.seq
   (.ops [⟨0, some 4, none, .op .quiet (oMv (.val (.slice none 0 0))), []⟩])
   (.seq
    (.ops [⟨0, some 5, none, .op .quiet (oMv (.val (.slice none 0 0))), []⟩])
    (.seq
     (.seq
      (.ops [⟨0, some 9, none, .op .quiet (oMv (.tmp 0)), []⟩,
        ⟨1, some 10, none, .op .reads (oLen .slice (.tmp 9)), []⟩,
        ⟨2, some 11, none, .op .quiet (oArith .sub (.tmp 10) (.val (.int .i64 1))), []⟩,
        ⟨3, some 6, none, .op .quiet (oMv (.tmp 11)), []⟩])
      (.block 0
       (.loop
        (.seq
         (.seq
          (.ops [⟨0, some 12, none, .op .quiet (oMv (.tmp 6)), []⟩,
            ⟨1, some 13, none, .op .quiet (oArith .geq (.tmp 12) (.val (.int .i64 0))), []⟩])
          (.cond (.tmp 13)
           (.skip)
           (.exit 0)))
         (.seq
          (.block 1
           (.seq
            (.ops [⟨0, some 16, none, .op .quiet (oMv (.tmp 1)), []⟩,
              ⟨1, some 17, none, .op .quiet (oMv (.tmp 0)), []⟩,
              ⟨2, some 18, none, .op .quiet (oMv (.tmp 6)), []⟩,
              ⟨3, some 19, none, .op .quiet (oIdxS 1 (.tmp 17) (.tmp 18)), []⟩,
              ⟨4, some 20, none, .op .reads (oLoad (.tmp 19)), []⟩,
              ⟨5, some 21, none, .op .quiet (oArith .quo (.tmp 20) (.val (.int .i64 2))), []⟩,
              ⟨6, some 22, none, .op .quiet (oIdxS 1 (.tmp 16) (.tmp 21)), []⟩,
              ⟨7, some 23, none, .op .reads (oLoad (.tmp 22)), []⟩,
              ⟨8, some 24, none, .op .quiet (oArith .lss (.tmp 23) (.val (.int .i64 0))), []⟩])
            (.cond (.tmp 24)
             (.ops [⟨0, some 25, none, .op .quiet (oMv (.tmp 5)), []⟩,
               ⟨1, some 26, none, .op .quiet (oMv (.tmp 0)), []⟩,
               ⟨2, some 27, none, .op .quiet (oMv (.tmp 6)), []⟩,
               ⟨3, some 28, none, .op .quiet (oIdxS 1 (.tmp 26) (.tmp 27)), []⟩,
               ⟨4, some 29, none, .op .reads (oLoad (.tmp 28)), []⟩,
               ⟨5, some 30, none, .op .quiet (oBuildSlice 1 1 [(.int .i64 0)] [(0, 1)] [(.tmp 29)]), []⟩,
               ⟨6, some 31, none, .op .hard (oAppend 1 8 (.tmp 25) (.tmp 30)), []⟩,
               ⟨7, some 5, none, .op .quiet (oMv (.tmp 31)), []⟩])
             (.skip))))
          (.ops [⟨0, some 14, none, .op .quiet (oMv (.tmp 6)), []⟩,
            ⟨1, some 15, none, .op .quiet (oArith .sub (.tmp 14) (.val (.int .i64 1))), []⟩,
            ⟨2, some 6, none, .op .quiet (oMv (.tmp 15)), []⟩]))))))
     (.seq
      (.seq
       (.ops [⟨0, some 32, none, .op .quiet (oMv (.tmp 0)), []⟩,
         ⟨1, some 33, none, .op .reads (oLen .slice (.tmp 32)), []⟩,
         ⟨2, some 34, none, .op .quiet (oMv (.val (.int .i64 0))), []⟩])
       (.block 2
        (.loop
         (.seq
          (.ops [⟨0, some 35, none, .op .quiet (oArith .lss (.tmp 34) (.tmp 33)), []⟩])
          (.seq
           (.cond (.tmp 35)
            (.skip)
            (.exit 2))
           (.seq
            (.block 3
             (.seq
              (.ops [⟨0, some 36, none, .op .quiet (oIdxS 1 (.tmp 32) (.tmp 34)), []⟩,
                ⟨1, some 37, none, .op .reads (oLoad (.tmp 36)), []⟩,
                ⟨2, some 8, none, .op .quiet (oMv (.tmp 37)), []⟩])
              (.seq
               (.ops [⟨0, some 38, none, .op .quiet (oMv (.tmp 1)), []⟩,
                 ⟨1, some 39, none, .op .quiet (oMv (.tmp 8)), []⟩,
                 ⟨2, some 40, none, .op .quiet (oArith .quo (.tmp 39) (.val (.int .i64 2))), []⟩,
                 ⟨3, some 41, none, .op .quiet (oIdxS 1 (.tmp 38) (.tmp 40)), []⟩,
                 ⟨4, some 42, none, .op .reads (oLoad (.tmp 41)), []⟩,
                 ⟨5, some 43, none, .op .quiet (oArith .gtr (.tmp 42) (.val (.int .i64 0))), []⟩])
               (.cond (.tmp 43)
                (.ops [⟨0, some 44, none, .op .quiet (oMv (.tmp 5)), []⟩,
                  ⟨1, some 45, none, .op .quiet (oMv (.tmp 8)), []⟩,
                  ⟨2, some 46, none, .op .quiet (oBuildSlice 1 1 [(.int .i64 0)] [(0, 1)] [(.tmp 45)]), []⟩,
                  ⟨3, some 47, none, .op .hard (oAppend 1 8 (.tmp 44) (.tmp 46)), []⟩,
                  ⟨4, some 5, none, .op .quiet (oMv (.tmp 47)), []⟩])
                (.skip)))))
            (.ops [⟨0, some 48, none, .op .quiet (oArith .add (.tmp 34) (.val (.int .i64 1))), []⟩,
              ⟨1, some 34, none, .op .quiet (oMv (.tmp 48)), []⟩])))))))
      (.seq
       (.ops [⟨0, some 49, none, .op .quiet (oMv (.tmp 5)), []⟩,
         ⟨1, some 4, none, .op .quiet (oMv (.tmp 49)), []⟩])
       (.ret))))))⟩
/-- (*tangram/embed.ring).last -/
noncomputable def a182 : AF := ⟨[],
 (.seq
   (.seq
    (.ops [⟨0, some 6, none, .op .quiet (oMv (.tmp 0)), []⟩,
      ⟨1, some 7, none, .op .quiet (oNilCheck (.tmp 6)), []⟩,
      ⟨2, some 8, none, .op .quiet (oFieldAddr 8 (.tmp 7)), []⟩,
      ⟨3, some 9, none, .op .reads (oLoad (.tmp 8)), []⟩,
      ⟨4, some 10, none, .op .quiet (oMv (.tmp 1)), []⟩,
      ⟨5, some 11, none, .op .quiet (oIdxS 1 (.tmp 9) (.tmp 10)), []⟩,
      ⟨6, some 12, none, .op .reads (oLoad (.tmp 11)), []⟩,
      ⟨7, some 13, none, .op .quiet (oArith .lss (.tmp 12) (.val (.int .i64 0))), []⟩])
    (.cond (.tmp 13)
     (.seq
      (.ops [⟨0, some 14, none, .op .quiet (oMv (.tmp 0)), []⟩,
        ⟨1, some 15, none, .op .quiet (oMv (.tmp 1)), []⟩,
        ⟨2, some 16, none, .op .quiet (oMv (.tmp 2)), []⟩,
        ⟨3, some 17, none, .callF 180 [(.tmp 14), (.tmp 15), (.tmp 16)], []⟩])
      (.ret))
     (.skip)))
   (.ops [⟨0, some 18, none, .op .quiet (oMv (.tmp 0)), []⟩,
     ⟨1, some 19, none, .op .quiet (oMv (.tmp 0)), []⟩,
     ⟨2, some 20, none, .op .quiet (oNilCheck (.tmp 19)), []⟩,
     ⟨3, some 21, none, .op .quiet (oFieldAddr 8 (.tmp 20)), []⟩,
     ⟨4, some 22, none, .op .reads (oLoad (.tmp 21)), []⟩,
     ⟨5, some 23, none, .op .quiet (oMv (.tmp 1)), []⟩,
     ⟨6, some 24, none, .op .quiet (oIdxS 1 (.tmp 22) (.tmp 23)), []⟩,
     ⟨7, some 25, none, .op .reads (oLoad (.tmp 24)), []⟩,
     ⟨8, some 26, none, .op .quiet (oMv (.tmp 2)), []⟩,
     ⟨9, some 27, none, .callF 289 [(.tmp 18), (.tmp 25), (.tmp 26)], []⟩]))⟩
/-- (*tangram/embed.ring).tour -/
noncomputable def a183 : AF := ⟨[],
 (.seq
   (.ops [⟨0, some 13, none, .op .quiet (oMkMap), []⟩,
     ⟨1, some 14, none, .op .quiet (oMv (.tmp 0)), []⟩,
     ⟨2, some 15, none, .op .quiet (oClos 290 [(.tmp 14)] []), []⟩,
     ⟨3, none, none, .op .hard (oUpdate (.int .i64) (.tmp 13) (.val (.int .i64 1)) (.tmp 15)), []⟩,
     ⟨4, some 16, none, .op .quiet (oMv (.tmp 0)), []⟩,
     ⟨5, some 17, none, .op .quiet (oClos 291 [(.tmp 16)] []), []⟩,
     ⟨6, none, none, .op .hard (oUpdate (.int .i64) (.tmp 13) (.val (.int .i64 (-1))) (.tmp 17)), []⟩,
     ⟨7, some 18, none, .op .quiet (oMv (.tmp 13)), []⟩,
     ⟨8, some 6, none, .op .quiet (oMv (.tmp 18)), []⟩])
   (.seq
    (.ops [⟨0, some 19, none, .op .quiet (oMv (.tmp 0)), []⟩,
      ⟨1, some 20, none, .op .quiet (oNilCheck (.tmp 19)), []⟩,
      ⟨2, some 21, none, .op .quiet (oFieldAddr 0 (.tmp 20)), []⟩,
      ⟨3, some 22, none, .op .quiet (oFieldAddr 0 (.tmp 21)), []⟩,
      ⟨4, some 23, none, .op .reads (oLoad (.tmp 22)), []⟩,
      ⟨5, some 24, none, .op .quiet (oMv (.val (.int .i64 0))), []⟩])
    (.block 0
     (.loop
      (.seq
       (.ops [⟨0, some 25, none, .op .quiet (oArith .lss (.tmp 24) (.tmp 23)), []⟩])
       (.seq
        (.cond (.tmp 25)
         (.skip)
         (.exit 0))
        (.seq
         (.block 1
          (.seq
           (.ops [⟨0, some 26, none, .op .quiet (oMv (.tmp 24)), []⟩,
             ⟨1, some 7, none, .op .quiet (oMv (.tmp 26)), []⟩])
           (.seq
            (.seq
             (.ops [⟨0, some 27, none, .op .quiet (oMv (.tmp 0)), []⟩,
               ⟨1, some 28, none, .op .quiet (oNilCheck (.tmp 27)), []⟩,
               ⟨2, some 29, none, .op .quiet (oFieldAddr 2 (.tmp 28)), []⟩,
               ⟨3, some 30, none, .op .quiet (oFieldAddr 0 (.tmp 29)), []⟩,
               ⟨4, some 31, none, .op .reads (oLoad (.tmp 30)), []⟩,
               ⟨5, some 32, none, .op .quiet (oMv (.tmp 7)), []⟩,
               ⟨6, some 33, none, .op .quiet (oIdxS 1 (.tmp 31) (.tmp 32)), []⟩,
               ⟨7, some 34, none, .op .reads (oLoad (.tmp 33)), []⟩,
               ⟨8, some 35, none, .op .quiet (oArith .geq (.tmp 34) (.val (.int .i64 0))), []⟩])
             (.cond (.tmp 35)
              (.exit 1)
              (.skip)))
            (.seq
             (.ops [⟨0, some 36, none, .op .quiet (oMv (.tmp 7)), []⟩,
               ⟨1, some 37, none, .op .quiet (oBuild [(.int .i64 0), (.int .i64 0)] [(0, 1), (1, 1)] [(.tmp 36), (.val (.int .i64 0))]), []⟩,
               ⟨2, some 38, none, .op .quiet (oBuildSlice 2 1 [(.int .i64 0), (.int .i64 0)] [(0, 2)] [(.tmp 37)]), []⟩,
               ⟨3, some 8, none, .op .quiet (oMv (.tmp 38)), []⟩])
             (.block 2
              (.loop
               (.seq
                (.seq
                 (.ops [⟨0, some 39, none, .op .quiet (oMv (.tmp 8)), []⟩,
                   ⟨1, some 40, none, .op .reads (oLen .slice (.tmp 39)), []⟩,
                   ⟨2, some 41, none, .op .quiet (oArith .gtr (.tmp 40) (.val (.int .i64 0))), []⟩])
                 (.cond (.tmp 41)
                  (.skip)
                  (.exit 2)))
                (.block 3
                 (.seq
                  (.ops [⟨0, some 42, none, .op .quiet (oMv (.tmp 8)), []⟩,
                    ⟨1, some 43, none, .op .quiet (oMv (.tmp 8)), []⟩,
                    ⟨2, some 44, none, .op .reads (oLen .slice (.tmp 43)), []⟩,
                    ⟨3, some 45, none, .op .quiet (oArith .sub (.tmp 44) (.val (.int .i64 1))), []⟩,
                    ⟨4, some 46, none, .op .quiet (oIdxS 2 (.tmp 42) (.tmp 45)), []⟩,
                    ⟨5, some 9, none, .op .quiet (oMv (.tmp 46)), []⟩])
                  (.seq
                   (.seq
                    (.drawn [⟨0, some 47, none, .op .quiet (oMv (.tmp 9)), []⟩,
                      ⟨1, some 48, none, .op .quiet (oNilCheck (.tmp 47)), []⟩,
                      ⟨2, some 49, none, .op .quiet (oFieldAddr 1 (.tmp 48)), []⟩,
                      ⟨3, some 50, none, .op .reads (oLoad (.tmp 49)), []⟩,
                      ⟨4, some 51, none, .op .quiet (oMv (.tmp 1)), []⟩,
                      ⟨5, some 52, none, .op .quiet (oMv (.tmp 9)), []⟩,
                      ⟨6, some 53, none, .op .quiet (oNilCheck (.tmp 52)), []⟩,
                      ⟨7, some 54, none, .op .quiet (oFieldAddr 0 (.tmp 53)), []⟩,
                      ⟨8, some 55, none, .op .reads (oLoad (.tmp 54)), []⟩,
                      ⟨9, some 56, none, .op .quiet (oIdxS 1 (.tmp 51) (.tmp 55)), []⟩,
                      ⟨10, some 57, none, .op .reads (oLoad (.tmp 56)), []⟩,
                      ⟨11, some 58, none, .op .reads (oLen .slice (.tmp 57)), []⟩,
                      ⟨12, some 59, none, .op .quiet (oArith .geq (.tmp 50) (.tmp 58)), []⟩])
                    (.cond (.tmp 59)
                     (.seq
                      (.ops [⟨0, some 60, none, .op .quiet (oMv (.tmp 8)), []⟩,
                        ⟨1, some 61, none, .op .quiet (oMv (.tmp 8)), []⟩,
                        ⟨2, some 62, none, .op .reads (oLen .slice (.tmp 61)), []⟩,
                        ⟨3, some 63, none, .op .quiet (oArith .sub (.tmp 62) (.val (.int .i64 1))), []⟩,
                        ⟨4, some 64, none, .op .quiet (oSlice 2 (.tmp 60) none (some (.tmp 63)) none), []⟩,
                        ⟨5, some 8, none, .op .quiet (oMv (.tmp 64)), []⟩])
                      (.exit 3))
                     (.skip)))
                   (.seq
                    (.drawn [⟨0, some 65, none, .op .quiet (oMv (.tmp 1)), []⟩,
                      ⟨1, some 66, none, .op .quiet (oMv (.tmp 9)), []⟩,
                      ⟨2, some 67, none, .op .quiet (oNilCheck (.tmp 66)), []⟩,
                      ⟨3, some 68, none, .op .quiet (oFieldAddr 0 (.tmp 67)), []⟩,
                      ⟨4, some 69, none, .op .reads (oLoad (.tmp 68)), []⟩,
                      ⟨5, some 70, none, .op .quiet (oIdxS 1 (.tmp 65) (.tmp 69)), []⟩,
                      ⟨6, some 71, none, .op .reads (oLoad (.tmp 70)), []⟩,
                      ⟨7, some 72, none, .op .quiet (oMv (.tmp 9)), []⟩,
                      ⟨8, some 73, none, .op .quiet (oNilCheck (.tmp 72)), []⟩,
                      ⟨9, some 74, none, .op .quiet (oFieldAddr 1 (.tmp 73)), []⟩,
                      ⟨10, some 75, none, .op .reads (oLoad (.tmp 74)), []⟩,
                      ⟨11, some 76, none, .op .quiet (oIdxS 1 (.tmp 71) (.tmp 75)), []⟩,
                      ⟨12, some 77, none, .op .reads (oLoad (.tmp 76)), []⟩,
                      ⟨13, some 10, none, .op .quiet (oMv (.tmp 77)), []⟩])
                    (.seq
                     (.ops [⟨0, some 78, none, .op .quiet (oMv (.tmp 9)), []⟩,
                       ⟨1, some 79, none, .op .quiet (oNilCheck (.tmp 78)), []⟩,
                       ⟨2, some 80, none, .op .quiet (oFieldAddr 1 (.tmp 79)), []⟩,
                       ⟨3, some 81, none, .op .reads (oLoad (.tmp 80)), []⟩,
                       ⟨4, some 82, none, .op .quiet (oArith .add (.tmp 81) (.val (.int .i64 1))), []⟩,
                       ⟨5, some 83, none, .op .quiet (oNilCheck (.tmp 78)), []⟩,
                       ⟨6, some 84, none, .op .quiet (oFieldAddr 1 (.tmp 83)), []⟩,
                       ⟨7, none, none, .op .hard (oStore 1 (.tmp 84) (.tmp 82)), []⟩])
                     (.seq
                      (.ops [⟨0, some 86, none, .op .quiet (oMv (.tmp 0)), []⟩,
                        ⟨1, some 87, none, .op .quiet (oMv (.tmp 10)), []⟩,
                        ⟨2, some 88, none, .callF 288 [(.tmp 86), (.tmp 87)], []⟩,
                        ⟨3, some 85, none, .op .quiet (oMv (.tmp 88)), []⟩,
                        ⟨4, some 89, none, .op .quiet (oExtract 0 (.tmp 85)), []⟩,
                        ⟨5, some 90, none, .op .quiet (oExtract 1 (.tmp 85)), []⟩,
                        ⟨6, some 11, none, .op .quiet (oMv (.tmp 89)), []⟩,
                        ⟨7, some 12, none, .op .quiet (oMv (.tmp 90)), []⟩])
                      (.seq
                       (.seq
                        (.ops [⟨0, some 91, none, .op .quiet (oMv (.tmp 0)), []⟩,
                          ⟨1, some 92, none, .op .quiet (oNilCheck (.tmp 91)), []⟩,
                          ⟨2, some 93, none, .op .quiet (oFieldAddr 2 (.tmp 92)), []⟩,
                          ⟨3, some 94, none, .op .quiet (oFieldAddr 0 (.tmp 93)), []⟩,
                          ⟨4, some 95, none, .op .reads (oLoad (.tmp 94)), []⟩,
                          ⟨5, some 96, none, .op .quiet (oMv (.tmp 12)), []⟩,
                          ⟨6, some 97, none, .op .quiet (oIdxS 1 (.tmp 95) (.tmp 96)), []⟩,
                          ⟨7, some 98, none, .op .reads (oLoad (.tmp 97)), []⟩,
                          ⟨8, some 99, none, .op .quiet (oMv (.tmp 10)), []⟩,
                          ⟨9, some 100, none, .op .quiet (oArith .neq (.tmp 98) (.tmp 99)), []⟩])
                        (.cond (.tmp 100)
                         (.seq
                          (.ops [⟨0, some 101, none, .op .quiet (oMv (.tmp 6)), []⟩,
                            ⟨1, some 102, none, .op .quiet (oMv (.tmp 2)), []⟩,
                            ⟨2, some 103, none, .op .quiet (oMv (.tmp 10)), []⟩,
                            ⟨3, some 104, none, .op .quiet (oArith .quo (.tmp 103) (.val (.int .i64 2))), []⟩,
                            ⟨4, some 105, none, .op .quiet (oIdxS 1 (.tmp 102) (.tmp 104)), []⟩,
                            ⟨5, some 106, none, .op .reads (oLoad (.tmp 105)), []⟩,
                            ⟨6, some 107, none, .op .reads (oLookup (.int .i64) false .nilFunc (.tmp 101) (.tmp 106)), []⟩,
                            ⟨7, some 108, none, .op .quiet (oMv (.tmp 12)), []⟩,
                            ⟨8, some 109, none, .op .quiet (oMv (.tmp 10)), []⟩,
                            ⟨9, some 110, none, .op .quiet (oArith .xor (.tmp 109) (.val (.int .i64 1))), []⟩,
                            ⟨10, some 111, none, .call (.tmp 107) [(.tmp 108), (.tmp 110)], []⟩])
                          (.exit 3))
                         (.skip)))
                       (.seq
                        (.drawn [⟨0, some 112, none, .op .quiet (oMv (.tmp 0)), []⟩,
                          ⟨1, some 113, none, .op .quiet (oNilCheck (.tmp 112)), []⟩,
                          ⟨2, some 114, none, .op .quiet (oFieldAddr 9 (.tmp 113)), []⟩,
                          ⟨3, some 115, none, .op .reads (oLoad (.tmp 114)), []⟩,
                          ⟨4, some 116, none, .op .quiet (oMv (.tmp 9)), []⟩,
                          ⟨5, some 117, none, .op .quiet (oNilCheck (.tmp 116)), []⟩,
                          ⟨6, some 118, none, .op .quiet (oFieldAddr 0 (.tmp 117)), []⟩,
                          ⟨7, some 119, none, .op .reads (oLoad (.tmp 118)), []⟩,
                          ⟨8, some 120, none, .op .quiet (oMv (.tmp 0)), []⟩,
                          ⟨9, some 121, none, .op .quiet (oNilCheck (.tmp 120)), []⟩,
                          ⟨10, some 122, none, .op .quiet (oFieldAddr 10 (.tmp 121)), []⟩,
                          ⟨11, some 123, none, .op .reads (oLoad (.tmp 122)), []⟩,
                          ⟨12, some 124, none, .op .quiet (oMv (.tmp 9)), []⟩,
                          ⟨13, some 125, none, .op .quiet (oNilCheck (.tmp 124)), []⟩,
                          ⟨14, some 126, none, .op .quiet (oFieldAddr 0 (.tmp 125)), []⟩,
                          ⟨15, some 127, none, .op .reads (oLoad (.tmp 126)), []⟩,
                          ⟨16, some 128, none, .op .quiet (oMv (.tmp 10)), []⟩,
                          ⟨17, some 129, none, .op .quiet (oMv (.tmp 10)), []⟩,
                          ⟨18, some 130, none, .op .quiet (oIdxS 1 (.tmp 115) (.tmp 119)), []⟩,
                          ⟨19, none, none, .op .hard (oStore 1 (.tmp 130) (.tmp 128)), []⟩,
                          ⟨20, some 131, none, .op .quiet (oIdxS 1 (.tmp 123) (.tmp 127)), []⟩,
                          ⟨21, none, none, .op .hard (oStore 1 (.tmp 131) (.tmp 129)), []⟩])
                        (.ops [⟨0, some 132, none, .op .quiet (oMv (.tmp 8)), []⟩,
                          ⟨1, some 133, none, .op .quiet (oMv (.tmp 12)), []⟩,
                          ⟨2, some 134, none, .op .quiet (oBuild [(.int .i64 0), (.int .i64 0)] [(0, 1), (1, 1)] [(.tmp 133), (.val (.int .i64 0))]), []⟩,
                          ⟨3, some 135, none, .op .quiet (oBuildSlice 2 1 [(.int .i64 0), (.int .i64 0)] [(0, 2)] [(.tmp 134)]), []⟩,
                          ⟨4, some 136, none, .op .hard (oAppend 2 16 (.tmp 132) (.tmp 135)), []⟩,
                          ⟨5, some 8, none, .op .quiet (oMv (.tmp 136)), []⟩]))))))))))))))))
         (.ops [⟨0, some 137, none, .op .quiet (oArith .add (.tmp 24) (.val (.int .i64 1))), []⟩,
           ⟨1, some 24, none, .op .quiet (oMv (.tmp 137)), []⟩]))))))))⟩
/-- (*tangram/embed.ring).list -/
noncomputable def a184 : AF := ⟨[.tmp 4],
 (.seq
   (.ops [⟨0, some 4, none, .op .quiet (oMv (.val (.slice none 0 0))), []⟩])
   (.seq
    (.ops [⟨0, some 5, none, .op .quiet (oMv (.val (.slice none 0 0))), []⟩])
    (.seq
     (.seq
      (.ops [⟨0, some 7, none, .op .quiet (oMv (.tmp 0)), []⟩,
        ⟨1, some 8, none, .op .quiet (oNilCheck (.tmp 7)), []⟩,
        ⟨2, some 9, none, .op .quiet (oFieldAddr 8 (.tmp 8)), []⟩,
        ⟨3, some 10, none, .op .reads (oLoad (.tmp 9)), []⟩,
        ⟨4, some 11, none, .op .quiet (oMv (.tmp 1)), []⟩,
        ⟨5, some 12, none, .op .quiet (oIdxS 1 (.tmp 10) (.tmp 11)), []⟩,
        ⟨6, some 13, none, .op .reads (oLoad (.tmp 12)), []⟩,
        ⟨7, some 6, none, .op .quiet (oMv (.tmp 13)), []⟩])
      (.block 0
       (.loop
        (.seq
         (.seq
          (.ops [⟨0, some 14, none, .op .quiet (oMv (.tmp 6)), []⟩,
            ⟨1, some 15, none, .op .quiet (oArith .geq (.tmp 14) (.val (.int .i64 0))), []⟩])
          (.cond (.tmp 15)
           (.skip)
           (.exit 0)))
         (.block 1
          (.seq
           (.ops [⟨0, some 16, none, .op .quiet (oMv (.tmp 5)), []⟩,
             ⟨1, some 17, none, .op .quiet (oMv (.tmp 6)), []⟩,
             ⟨2, some 18, none, .op .quiet (oBuildSlice 1 1 [(.int .i64 0)] [(0, 1)] [(.tmp 17)]), []⟩,
             ⟨3, some 19, none, .op .hard (oAppend 1 8 (.tmp 16) (.tmp 18)), []⟩,
             ⟨4, some 5, none, .op .quiet (oMv (.tmp 19)), []⟩])
           (.seq
            (.ops [⟨0, some 20, none, .op .quiet (oMv (.tmp 0)), []⟩,
              ⟨1, some 21, none, .op .quiet (oNilCheck (.tmp 20)), []⟩,
              ⟨2, some 22, none, .op .quiet (oFieldAddr 6 (.tmp 21)), []⟩,
              ⟨3, some 23, none, .op .reads (oLoad (.tmp 22)), []⟩,
              ⟨4, some 24, none, .op .quiet (oMv (.tmp 6)), []⟩,
              ⟨5, some 25, none, .op .quiet (oIdxS 1 (.tmp 23) (.tmp 24)), []⟩,
              ⟨6, some 26, none, .op .reads (oLoad (.tmp 25)), []⟩,
              ⟨7, some 6, none, .op .quiet (oMv (.tmp 26)), []⟩])
            (.seq
             (.ops [⟨0, some 27, none, .op .quiet (oMv (.tmp 6)), []⟩,
               ⟨1, some 28, none, .op .quiet (oMv (.tmp 0)), []⟩,
               ⟨2, some 29, none, .op .quiet (oNilCheck (.tmp 28)), []⟩,
               ⟨3, some 30, none, .op .quiet (oFieldAddr 8 (.tmp 29)), []⟩,
               ⟨4, some 31, none, .op .reads (oLoad (.tmp 30)), []⟩,
               ⟨5, some 32, none, .op .quiet (oMv (.tmp 1)), []⟩,
               ⟨6, some 33, none, .op .quiet (oIdxS 1 (.tmp 31) (.tmp 32)), []⟩,
               ⟨7, some 34, none, .op .reads (oLoad (.tmp 33)), []⟩,
               ⟨8, some 35, none, .op .quiet (oArith .eql (.tmp 27) (.tmp 34)), []⟩])
             (.cond (.tmp 35)
              (.exit 0)
              (.skip))))))))))
     (.seq
      (.ops [⟨0, some 36, none, .op .quiet (oMv (.tmp 5)), []⟩,
        ⟨1, some 4, none, .op .quiet (oMv (.tmp 36)), []⟩])
      (.ret)))))⟩
/-- tangram/low.fault -/
noncomputable def a192 : AF := ⟨[.tmp 4],
 (.seq
   (.ops [⟨0, some 2, none, .op .quiet (oBox (.tmp 0)), []⟩,
     ⟨1, some 3, none, .op .quiet (oBox (.tmp 1)), []⟩,
     ⟨2, some 4, none, .op .quiet (oMv (.val (.int .i64 0))), []⟩])
   (.seq
    (.block 0
     (.seq
      (.ops [⟨0, some 6, none, .op .reads (oLoadN 2 (.tmp 2)), []⟩,
        ⟨1, some 7, none, .callF 92 [(.tmp 6)], []⟩,
        ⟨2, some 8, none, .op .quiet (oNot (.tmp 7)), []⟩,
        ⟨3, some 5, none, .op .quiet (oMv (.tmp 8)), []⟩])
      (.cond (.tmp 5)
       (.seq
        (.ops [⟨0, some 4, none, .op .quiet (oMv (.val (.int .i64 1))), []⟩])
        (.ret))
       (.seq
        (.ops [⟨0, some 10, none, .op .reads (oLoadN 2 (.tmp 2)), []⟩,
          ⟨1, some 11, none, .op .reads (oLoadN 4 (.tmp 3)), []⟩,
          ⟨2, some 12, none, .callF 174 [(.tmp 10), (.tmp 11)], []⟩,
          ⟨3, some 13, none, .op .quiet (oNot (.tmp 12)), []⟩,
          ⟨4, some 9, none, .op .quiet (oMv (.tmp 13)), []⟩])
        (.cond (.tmp 9)
         (.seq
          (.ops [⟨0, some 4, none, .op .quiet (oMv (.val (.int .i64 80))), []⟩])
          (.ret))
         (.skip))))))
    (.seq
     (.ops [⟨0, some 4, none, .op .quiet (oMv (.val (.int .i64 0))), []⟩])
     (.ret))))⟩
/-- tangram/low.ends -/
noncomputable def a193 : AF := ⟨[.tmp 6, .tmp 7],
 (.seq
   (.ops [⟨0, some 3, none, .op .quiet (oBox (.tmp 0)), []⟩,
     ⟨1, some 4, none, .op .quiet (oBox (.tmp 1)), []⟩,
     ⟨2, some 6, none, .op .quiet (oMv (.val (.int .i64 0))), []⟩,
     ⟨3, some 7, none, .op .quiet (oMv (.val (.int .i64 0))), []⟩])
   (.seq
    (.drawn [⟨0, some 10, none, .op .quiet (oFieldAddr 1 (.tmp 3)), []⟩,
      ⟨1, some 11, none, .op .reads (oLoad (.tmp 10)), []⟩,
      ⟨2, some 12, none, .op .quiet (oMv (.tmp 2)), []⟩,
      ⟨3, some 13, none, .op .quiet (oIdxS 2 (.tmp 11) (.tmp 12)), []⟩,
      ⟨4, some 14, none, .op .quiet (oFieldAddr 0 (.tmp 13)), []⟩,
      ⟨5, some 15, none, .op .reads (oLoad (.tmp 14)), []⟩,
      ⟨6, some 16, none, .op .quiet (oFieldAddr 1 (.tmp 3)), []⟩,
      ⟨7, some 17, none, .op .reads (oLoad (.tmp 16)), []⟩,
      ⟨8, some 18, none, .op .quiet (oMv (.tmp 2)), []⟩,
      ⟨9, some 19, none, .op .quiet (oIdxS 2 (.tmp 17) (.tmp 18)), []⟩,
      ⟨10, some 20, none, .op .quiet (oFieldAddr 1 (.tmp 19)), []⟩,
      ⟨11, some 21, none, .op .reads (oLoad (.tmp 20)), []⟩,
      ⟨12, some 8, none, .op .quiet (oMv (.tmp 15)), []⟩,
      ⟨13, some 9, none, .op .quiet (oMv (.tmp 21)), []⟩])
    (.seq
     (.seq
      (.ops [⟨0, some 22, none, .op .quiet (oFieldAddr 3 (.tmp 4)), []⟩,
        ⟨1, some 23, none, .op .reads (oLoad (.tmp 22)), []⟩,
        ⟨2, some 24, none, .op .quiet (oMv (.tmp 2)), []⟩,
        ⟨3, some 25, none, .op .quiet (oIdxS 1 (.tmp 23) (.tmp 24)), []⟩,
        ⟨4, some 26, none, .op .reads (oLoad (.tmp 25)), []⟩,
        ⟨5, some 27, none, .op .quiet (oArith .and (.tmp 26) (.val (.int .i64 1))), []⟩,
        ⟨6, some 28, none, .op .quiet (oArith .eql (.tmp 27) (.val (.int .i64 1))), []⟩])
      (.cond (.tmp 28)
       (.seq
        (.ops [⟨0, some 29, none, .op .quiet (oMv (.tmp 9)), []⟩,
          ⟨1, some 30, none, .op .quiet (oMv (.tmp 8)), []⟩,
          ⟨2, some 6, none, .op .quiet (oMv (.tmp 29)), []⟩,
          ⟨3, some 7, none, .op .quiet (oMv (.tmp 30)), []⟩])
        (.ret))
       (.skip)))
     (.seq
      (.ops [⟨0, some 31, none, .op .quiet (oMv (.tmp 8)), []⟩,
        ⟨1, some 32, none, .op .quiet (oMv (.tmp 9)), []⟩,
        ⟨2, some 6, none, .op .quiet (oMv (.tmp 31)), []⟩,
        ⟨3, some 7, none, .op .quiet (oMv (.tmp 32)), []⟩])
      (.ret)))))⟩
/-- slices.Backward[[]int,int] -/
noncomputable def a194 : AF := ⟨[.tmp 2],
 (.seq
   (.ops [⟨0, some 1, none, .op .quiet (oBox (.tmp 0)), []⟩,
     ⟨1, some 2, none, .op .quiet (oMv (.val .nilFunc)), []⟩])
   (.seq
    (.ops [⟨0, some 3, none, .op .quiet (oClos 294 [] [(.tmp 1)]), []⟩,
      ⟨1, some 2, none, .op .quiet (oMv (.tmp 3)), []⟩])
    (.ret)))⟩
/-- tangram/low.lowest -/
noncomputable def a195 : AF := ⟨[.tmp 0, .tmp 1],
 (.seq
   (.ops [⟨0, some 0, none, .op .quiet (oMv (.val .nilFunc)), []⟩,
     ⟨1, some 1, none, .op .quiet (oMv (.val .nilFunc)), []⟩])
   (.seq
    (.ops [⟨0, some 2, none, .op .quiet (oAlloc [(.int .i64 0)]), []⟩,
      ⟨1, some 3, none, .op .quiet (oAlloc [(.int .i64 0)]), []⟩,
      ⟨2, none, none, .op .hard (oStore 1 (.tmp 2) (.val (.int .i64 9223372036854775807))), []⟩,
      ⟨3, none, none, .op .hard (oStore 1 (.tmp 3) (.val (.int .i64 9223372036854775807))), []⟩])
    (.seq
     (.ops [⟨0, some 4, none, .op .quiet (oClos 295 [] [(.tmp 2), (.tmp 3)]), []⟩,
       ⟨1, some 0, none, .op .quiet (oMv (.tmp 4)), []⟩])
     (.seq
      (.ops [⟨0, some 5, none, .op .quiet (oMv (.tmp 0)), []⟩,
        ⟨1, some 6, none, .op .quiet (oClos 296 [] [(.tmp 2), (.tmp 3)]), []⟩,
        ⟨2, some 0, none, .op .quiet (oMv (.tmp 5)), []⟩,
        ⟨3, some 1, none, .op .quiet (oMv (.tmp 6)), []⟩])
      (.ret)))))⟩
/-- slices.Sorted[int] -/
noncomputable def a196 : AF := ⟨[.tmp 2],
 (.seq
   (.ops [⟨0, some 2, none, .op .quiet (oMv (.val (.slice none 0 0))), []⟩])
   (.seq
    (.ops [⟨0, some 4, none, .op .quiet (oMv (.tmp 0)), []⟩,
      ⟨1, some 5, none, .callF 297 [(.tmp 4)], []⟩,
      ⟨2, some 3, none, .op .quiet (oMv (.tmp 5)), []⟩])
    (.seq
     (.ops [⟨0, some 6, none, .op .quiet (oMv (.tmp 3)), []⟩,
       ⟨1, some 7, none, .callF 298 [(.tmp 6)], []⟩])
     (.seq
      (.ops [⟨0, some 8, none, .op .quiet (oMv (.tmp 3)), []⟩,
        ⟨1, some 2, none, .op .quiet (oMv (.tmp 8)), []⟩])
      (.ret)))))⟩
/-- slices.Values[[]int,int] -/
noncomputable def a197 : AF := ⟨[.tmp 2],
 (.seq
   (.ops [⟨0, some 1, none, .op .quiet (oBox (.tmp 0)), []⟩,
     ⟨1, some 2, none, .op .quiet (oMv (.val .nilFunc)), []⟩])
   (.seq
    (.ops [⟨0, some 3, none, .op .quiet (oClos 299 [] [(.tmp 1)]), []⟩,
      ⟨1, some 2, none, .op .quiet (oMv (.tmp 3)), []⟩])
    (.ret)))⟩
/-- tangram/bucket.Sort[int] -/
noncomputable def a198 : AF := ⟨[.tmp 6, .tmp 7],
 (.seq
   (.ops [⟨0, some 6, none, .op .quiet (oMv (.val (.slice none 0 0))), []⟩,
     ⟨1, some 7, none, .op .quiet (oMv (.val (.int .i64 0))), []⟩])
   (.seq
    (.seq
     (.ops [⟨0, some 15, none, .op .quiet (oMv (.tmp 2)), []⟩,
       ⟨1, some 16, none, .op .quiet (oArith .lss (.tmp 15) (.val (.int .i64 0))), []⟩,
       ⟨2, some 17, none, .op .quiet (oMv (.tmp 16)), []⟩,
       ⟨3, some 18, some (17, false), .op .quiet (oMv (.tmp 2)), []⟩,
       ⟨4, some 19, some (17, false), .op .quiet (oArith .gtr (.tmp 18) (.val (.int .i64 4194304))), []⟩,
       ⟨5, some 20, none, .op .quiet (oPick (.tmp 17) (.val (.bool true)) (.tmp 19)), []⟩,
       ⟨6, some 21, none, .op .quiet (oMv (.tmp 20)), []⟩,
       ⟨7, some 22, some (21, false), .op .quiet (oMv (.tmp 1)), []⟩,
       ⟨8, some 23, some (21, false), .op .quiet (oEq false .funcNil (.tmp 22) (.val .nilFunc)), []⟩,
       ⟨9, some 24, none, .op .quiet (oPick (.tmp 21) (.val (.bool true)) (.tmp 23)), []⟩])
     (.cond (.tmp 24)
      (.seq
       (.ops [⟨0, some 6, none, .op .quiet (oMv (.val (.slice none 0 0))), []⟩,
         ⟨1, some 7, none, .op .quiet (oMv (.val (.int .i64 2))), []⟩])
       (.ret))
      (.skip)))
    (.seq
     (.ops [⟨0, some 25, none, .op .quiet (oMv (.tmp 0)), []⟩,
       ⟨1, some 26, none, .op .reads (oLen .slice (.tmp 25)), []⟩,
       ⟨2, some 27, none, .op .quiet (oMkSlice 1 8 [(.int .i64 0)] (.val (.int .i64 0)) (.tmp 26)), []⟩,
       ⟨3, some 8, none, .op .quiet (oMv (.tmp 27)), []⟩])
     (.seq
      (.seq
       (.ops [⟨0, some 28, none, .op .quiet (oMv (.tmp 0)), []⟩,
         ⟨1, some 29, none, .op .reads (oLen .slice (.tmp 28)), []⟩,
         ⟨2, some 30, none, .op .quiet (oMv (.val (.int .i64 0))), []⟩])
       (.block 0
        (.loop
         (.seq
          (.ops [⟨0, some 31, none, .op .quiet (oArith .lss (.tmp 30) (.tmp 29)), []⟩])
          (.seq
           (.cond (.tmp 31)
            (.skip)
            (.exit 0))
           (.seq
            (.block 1
             (.seq
              (.ops [⟨0, some 32, none, .op .quiet (oIdxS 1 (.tmp 28) (.tmp 30)), []⟩,
                ⟨1, some 33, none, .op .reads (oLoad (.tmp 32)), []⟩,
                ⟨2, some 10, none, .op .quiet (oMv (.tmp 33)), []⟩])
              (.seq
               (.ops [⟨0, some 34, none, .op .quiet (oMv (.tmp 1)), []⟩,
                 ⟨1, some 35, none, .op .quiet (oMv (.tmp 10)), []⟩,
                 ⟨2, some 36, none, .call (.tmp 34) [(.tmp 35)], []⟩,
                 ⟨3, some 11, none, .op .quiet (oMv (.tmp 36)), []⟩])
               (.seq
                (.seq
                 (.ops [⟨0, some 37, none, .op .quiet (oMv (.tmp 11)), []⟩,
                   ⟨1, some 38, none, .op .quiet (oArith .lss (.tmp 37) (.val (.int .i64 0))), []⟩,
                   ⟨2, some 39, none, .op .quiet (oMv (.tmp 38)), []⟩,
                   ⟨3, some 40, some (39, false), .op .quiet (oMv (.tmp 11)), []⟩,
                   ⟨4, some 41, some (39, false), .op .quiet (oMv (.tmp 2)), []⟩,
                   ⟨5, some 42, some (39, false), .op .quiet (oArith .gtr (.tmp 40) (.tmp 41)), []⟩,
                   ⟨6, some 43, none, .op .quiet (oPick (.tmp 39) (.val (.bool true)) (.tmp 42)), []⟩])
                 (.cond (.tmp 43)
                  (.seq
                   (.ops [⟨0, some 6, none, .op .quiet (oMv (.val (.slice none 0 0))), []⟩,
                     ⟨1, some 7, none, .op .quiet (oMv (.val (.int .i64 60))), []⟩])
                   (.ret))
                  (.skip)))
                (.ops [⟨0, some 44, none, .op .quiet (oMv (.tmp 8)), []⟩,
                  ⟨1, some 45, none, .op .quiet (oMv (.tmp 11)), []⟩,
                  ⟨2, some 46, none, .op .quiet (oBuildSlice 1 1 [(.int .i64 0)] [(0, 1)] [(.tmp 45)]), []⟩,
                  ⟨3, some 47, none, .op .hard (oAppend 1 8 (.tmp 44) (.tmp 46)), []⟩,
                  ⟨4, some 8, none, .op .quiet (oMv (.tmp 47)), []⟩])))))
            (.ops [⟨0, some 48, none, .op .quiet (oArith .add (.tmp 30) (.val (.int .i64 1))), []⟩,
              ⟨1, some 30, none, .op .quiet (oMv (.tmp 48)), []⟩])))))))
      (.seq
       (.ops [⟨0, some 49, none, .op .quiet (oMv (.tmp 0)), []⟩,
         ⟨1, some 50, none, .op .reads (oLen .slice (.tmp 49)), []⟩,
         ⟨2, some 51, none, .op .quiet (oMkSlice 1 8 [(.int .i64 0)] (.tmp 50) (.tmp 50)), []⟩,
         ⟨3, some 12, none, .op .quiet (oMv (.tmp 51)), []⟩])
       (.seq
        (.seq
         (.ops [⟨0, some 52, none, .op .quiet (oMv (.tmp 8)), []⟩,
           ⟨1, some 53, none, .callF 300 [(.tmp 52)], []⟩,
           ⟨2, some 54, none, .op .reads (oLen .slice (.tmp 53)), []⟩,
           ⟨3, some 55, none, .op .quiet (oMv (.val (.int .i64 0))), []⟩])
         (.block 2
          (.loop
           (.seq
            (.ops [⟨0, some 56, none, .op .quiet (oArith .lss (.tmp 55) (.tmp 54)), []⟩])
            (.seq
             (.cond (.tmp 56)
              (.skip)
              (.exit 2))
             (.seq
              (.block 3
               (.seq
                (.ops [⟨0, some 57, none, .op .quiet (oMv (.tmp 55)), []⟩,
                  ⟨1, some 58, none, .op .quiet (oIdxS 1 (.tmp 53) (.tmp 55)), []⟩,
                  ⟨2, some 59, none, .op .reads (oLoad (.tmp 58)), []⟩,
                  ⟨3, some 13, none, .op .quiet (oMv (.tmp 57)), []⟩,
                  ⟨4, some 14, none, .op .quiet (oMv (.tmp 59)), []⟩])
                (.ops [⟨0, some 60, none, .op .quiet (oMv (.tmp 12)), []⟩,
                  ⟨1, some 61, none, .op .quiet (oMv (.tmp 14)), []⟩,
                  ⟨2, some 62, none, .op .quiet (oMv (.tmp 0)), []⟩,
                  ⟨3, some 63, none, .op .quiet (oMv (.tmp 13)), []⟩,
                  ⟨4, some 64, none, .op .quiet (oIdxS 1 (.tmp 62) (.tmp 63)), []⟩,
                  ⟨5, some 65, none, .op .reads (oLoad (.tmp 64)), []⟩,
                  ⟨6, some 66, none, .op .quiet (oIdxS 1 (.tmp 60) (.tmp 61)), []⟩,
                  ⟨7, none, none, .op .hard (oStore 1 (.tmp 66) (.tmp 65)), []⟩])))
              (.ops [⟨0, some 67, none, .op .quiet (oArith .add (.tmp 55) (.val (.int .i64 1))), []⟩,
                ⟨1, some 55, none, .op .quiet (oMv (.tmp 67)), []⟩])))))))
        (.seq
         (.ops [⟨0, some 68, none, .op .quiet (oMv (.tmp 12)), []⟩,
           ⟨1, some 6, none, .op .quiet (oMv (.tmp 68)), []⟩,
           ⟨2, some 7, none, .op .quiet (oMv (.val (.int .i64 0))), []⟩])
         (.ret))))))))⟩
/-- tangram/low.Of$1 -/
noncomputable def a199 : AF := ⟨[.tmp 3],
 (.seq
   (.ops [⟨0, some 3, none, .op .quiet (oMv (.val (.int .i64 0))), []⟩])
   (.seq
    (.ops [⟨0, some 4, none, .op .quiet (oFieldAddr 2 (.tmp 1)), []⟩,
      ⟨1, some 5, none, .op .reads (oLoad (.tmp 4)), []⟩,
      ⟨2, some 6, none, .op .quiet (oMv (.tmp 0)), []⟩,
      ⟨3, some 7, none, .op .quiet (oArith .quo (.tmp 6) (.val (.int .i64 2))), []⟩,
      ⟨4, some 8, none, .op .quiet (oIdxS 1 (.tmp 5) (.tmp 7)), []⟩,
      ⟨5, some 9, none, .op .reads (oLoad (.tmp 8)), []⟩,
      ⟨6, some 3, none, .op .quiet (oMv (.tmp 9)), []⟩])
    (.ret)))⟩
/-- (*tangram/lr.test).join -/
noncomputable def a200 : AF := ⟨[.tmp 6],
 (.seq
   (.ops [⟨0, some 6, none, .op .quiet (oMv (.val (.bool false))), []⟩])
   (.seq
    (.ops [⟨0, some 9, none, .op .quiet (oMv (.tmp 0)), []⟩,
      ⟨1, some 10, none, .op .quiet (oNilCheck (.tmp 9)), []⟩,
      ⟨2, some 11, none, .op .quiet (oFieldAddr 6 (.tmp 10)), []⟩,
      ⟨3, some 12, none, .op .quiet (oFieldAddr 3 (.tmp 11)), []⟩,
      ⟨4, some 13, none, .op .reads (oLoad (.tmp 12)), []⟩,
      ⟨5, some 14, none, .op .quiet (oMv (.tmp 1)), []⟩,
      ⟨6, some 15, none, .op .quiet (oIdxS 1 (.tmp 13) (.tmp 14)), []⟩,
      ⟨7, some 16, none, .op .reads (oLoad (.tmp 15)), []⟩,
      ⟨8, some 17, none, .op .quiet (oMv (.tmp 2)), []⟩,
      ⟨9, some 18, none, .op .quiet (oIdxS 1 (.tmp 16) (.tmp 17)), []⟩,
      ⟨10, some 19, none, .op .reads (oLoad (.tmp 18)), []⟩,
      ⟨11, some 20, none, .op .quiet (oArith .quo (.tmp 19) (.val (.int .i64 2))), []⟩,
      ⟨12, some 7, none, .op .quiet (oMv (.tmp 20)), []⟩])
    (.seq
     (.seq
      (.drawn [⟨0, some 21, none, .op .quiet (oMv (.tmp 0)), []⟩,
        ⟨1, some 22, none, .op .quiet (oNilCheck (.tmp 21)), []⟩,
        ⟨2, some 23, none, .op .quiet (oFieldAddr 6 (.tmp 22)), []⟩,
        ⟨3, some 24, none, .op .quiet (oFieldAddr 0 (.tmp 23)), []⟩,
        ⟨4, some 25, none, .op .reads (oLoad (.tmp 24)), []⟩,
        ⟨5, some 26, none, .op .quiet (oMv (.tmp 7)), []⟩,
        ⟨6, some 27, none, .op .quiet (oIdxS 1 (.tmp 25) (.tmp 26)), []⟩,
        ⟨7, some 28, none, .op .reads (oLoad (.tmp 27)), []⟩,
        ⟨8, some 29, none, .op .quiet (oMv (.tmp 0)), []⟩,
        ⟨9, some 30, none, .op .quiet (oNilCheck (.tmp 29)), []⟩,
        ⟨10, some 31, none, .op .quiet (oFieldAddr 2 (.tmp 30)), []⟩,
        ⟨11, some 32, none, .op .quiet (oFieldAddr 1 (.tmp 31)), []⟩,
        ⟨12, some 33, none, .op .reads (oLoad (.tmp 32)), []⟩,
        ⟨13, some 34, none, .op .quiet (oMv (.tmp 1)), []⟩,
        ⟨14, some 35, none, .op .quiet (oIdxS 1 (.tmp 33) (.tmp 34)), []⟩,
        ⟨15, some 36, none, .op .reads (oLoad (.tmp 35)), []⟩,
        ⟨16, some 37, none, .op .quiet (oArith .geq (.tmp 28) (.tmp 36)), []⟩])
      (.cond (.tmp 37)
       (.seq
        (.ops [⟨0, some 6, none, .op .quiet (oMv (.val (.bool true))), []⟩])
        (.ret))
       (.skip)))
     (.seq
      (.ops [⟨0, some 38, none, .op .quiet (oMv (.tmp 0)), []⟩,
        ⟨1, some 39, none, .op .quiet (oMv (.tmp 1)), []⟩,
        ⟨2, some 40, none, .callF 177 [(.tmp 38), (.tmp 39)], []⟩,
        ⟨3, some 8, none, .op .quiet (oMv (.tmp 40)), []⟩])
      (.seq
       (.seq
        (.ops [⟨0, some 41, none, .op .quiet (oMv (.tmp 2)), []⟩,
          ⟨1, some 42, none, .op .quiet (oArith .eql (.tmp 41) (.val (.int .i64 0))), []⟩])
        (.cond (.tmp 42)
         (.seq
          (.drawn [⟨0, some 43, none, .op .quiet (oMv (.tmp 0)), []⟩,
            ⟨1, some 44, none, .op .quiet (oNilCheck (.tmp 43)), []⟩,
            ⟨2, some 45, none, .op .quiet (oFieldAddr 14 (.tmp 44)), []⟩,
            ⟨3, some 46, none, .op .reads (oLoad (.tmp 45)), []⟩,
            ⟨4, some 47, none, .op .quiet (oMv (.tmp 8)), []⟩,
            ⟨5, some 48, none, .op .quiet (oMv (.tmp 0)), []⟩,
            ⟨6, some 49, none, .op .quiet (oNilCheck (.tmp 48)), []⟩,
            ⟨7, some 50, none, .op .quiet (oFieldAddr 14 (.tmp 49)), []⟩,
            ⟨8, some 51, none, .op .reads (oLoad (.tmp 50)), []⟩,
            ⟨9, some 52, none, .op .quiet (oMv (.tmp 7)), []⟩,
            ⟨10, some 53, none, .op .quiet (oIdxS 1 (.tmp 51) (.tmp 52)), []⟩,
            ⟨11, some 54, none, .op .reads (oLoad (.tmp 53)), []⟩,
            ⟨12, some 55, none, .op .quiet (oIdxS 1 (.tmp 46) (.tmp 47)), []⟩,
            ⟨13, none, none, .op .hard (oStore 1 (.tmp 55) (.tmp 54)), []⟩])
          (.seq
           (.ops [⟨0, some 6, none, .op .quiet (oMv (.val (.bool true))), []⟩])
           (.ret)))
         (.skip)))
       (.seq
        (.ops [⟨0, some 56, none, .op .quiet (oMv (.tmp 0)), []⟩,
          ⟨1, some 57, none, .op .quiet (oMv (.tmp 7)), []⟩,
          ⟨2, some 58, none, .op .quiet (oMv (.tmp 8)), []⟩,
          ⟨3, some 59, none, .callF 301 [(.tmp 56), (.tmp 57), (.tmp 58)], []⟩,
          ⟨4, some 6, none, .op .quiet (oMv (.tmp 59)), []⟩])
        (.ret)))))))⟩
/-- (*tangram/lr.test).leave -/
noncomputable def a201 : AF := ⟨[],
 (.seq
   (.block 0
    (.loop
     (.seq
      (.seq
       (.drawn [⟨0, some 9, none, .op .quiet (oMv (.tmp 0)), []⟩,
         ⟨1, some 10, none, .op .quiet (oNilCheck (.tmp 9)), []⟩,
         ⟨2, some 11, none, .op .quiet (oFieldAddr 10 (.tmp 10)), []⟩,
         ⟨3, some 12, none, .op .reads (oLoad (.tmp 11)), []⟩,
         ⟨4, some 13, none, .op .reads (oLen .slice (.tmp 12)), []⟩,
         ⟨5, some 14, none, .op .quiet (oArith .gtr (.tmp 13) (.val (.int .i64 0))), []⟩,
         ⟨6, some 15, none, .op .quiet (oMv (.tmp 14)), []⟩,
         ⟨7, some 16, some (15, true), .op .quiet (oMv (.tmp 0)), []⟩,
         ⟨8, some 17, some (15, true), .op .quiet (oMv (.tmp 0)), []⟩,
         ⟨9, some 18, some (15, true), .op .quiet (oNilCheck (.tmp 17)), []⟩,
         ⟨10, some 19, some (15, true), .op .quiet (oFieldAddr 10 (.tmp 18)), []⟩,
         ⟨11, some 20, some (15, true), .op .reads (oLoad (.tmp 19)), []⟩,
         ⟨12, some 21, some (15, true), .op .quiet (oMv (.tmp 0)), []⟩,
         ⟨13, some 22, some (15, true), .op .quiet (oNilCheck (.tmp 21)), []⟩,
         ⟨14, some 23, some (15, true), .op .quiet (oFieldAddr 10 (.tmp 22)), []⟩,
         ⟨15, some 24, some (15, true), .op .reads (oLoad (.tmp 23)), []⟩,
         ⟨16, some 25, some (15, true), .op .reads (oLen .slice (.tmp 24)), []⟩,
         ⟨17, some 26, some (15, true), .op .quiet (oArith .sub (.tmp 25) (.val (.int .i64 1))), []⟩,
         ⟨18, some 27, some (15, true), .op .quiet (oIdxS 4 (.tmp 20) (.tmp 26)), []⟩,
         ⟨19, some 28, some (15, true), .op .reads (oLoadN 4 (.tmp 27)), []⟩,
         ⟨21, some 30, some (15, true), .op .quiet (oMv (.tmp 0)), []⟩,
         ⟨22, some 31, some (15, true), .op .quiet (oNilCheck (.tmp 30)), []⟩,
         ⟨23, some 32, some (15, true), .op .quiet (oFieldAddr 2 (.tmp 31)), []⟩,
         ⟨24, some 33, some (15, true), .op .quiet (oFieldAddr 1 (.tmp 32)), []⟩,
         ⟨25, some 34, some (15, true), .op .reads (oLoad (.tmp 33)), []⟩,
         ⟨26, some 35, some (15, true), .op .quiet (oMv (.tmp 2)), []⟩,
         ⟨27, some 36, some (15, true), .op .quiet (oIdxS 1 (.tmp 34) (.tmp 35)), []⟩,
         ⟨28, some 37, some (15, true), .op .reads (oLoad (.tmp 36)), []⟩,
         ⟨20, some 29, some (15, true), .callF 302 [(.tmp 16), (.tmp 28)], [25, 28]⟩,
         ⟨29, some 38, some (15, true), .op .quiet (oArith .eql (.tmp 29) (.tmp 37)), []⟩,
         ⟨30, some 39, none, .op .quiet (oPick (.tmp 15) (.tmp 38) (.val (.bool false))), []⟩])
       (.cond (.tmp 39)
        (.skip)
        (.exit 0)))
      (.block 1
       (.seq
        (.ops [⟨0, some 40, none, .op .quiet (oMv (.tmp 0)), []⟩,
          ⟨1, some 41, none, .callF 303 [(.tmp 40)], []⟩,
          ⟨2, some 6, none, .op .quiet (oAlloc [(.int .i64 0), (.int .i64 0), (.int .i64 0), (.int .i64 0)]), []⟩,
          ⟨3, none, none, .op .hard (oStore 4 (.tmp 6) (.tmp 41)), []⟩])
        (.seq
         (.ops [⟨0, some 42, none, .op .quiet (oFieldAddr 0 (.tmp 6)), []⟩,
           ⟨1, some 43, none, .op .reads (oLoadN 2 (.tmp 42)), []⟩,
           ⟨2, some 44, none, .op .reads (oLoadN 2 (.val (.pointer (some ⟨0, 0, none⟩)))), []⟩,
           ⟨3, some 45, none, .op .quiet (oEq true (.ints 2) (.tmp 43) (.tmp 44)), []⟩])
         (.cond (.tmp 45)
          (.drawn [⟨0, some 46, none, .op .quiet (oMv (.tmp 0)), []⟩,
            ⟨1, some 47, none, .op .quiet (oNilCheck (.tmp 46)), []⟩,
            ⟨2, some 48, none, .op .quiet (oFieldAddr 12 (.tmp 47)), []⟩,
            ⟨3, some 49, none, .op .reads (oLoad (.tmp 48)), []⟩,
            ⟨4, some 50, none, .op .quiet (oFieldAddr 0 (.tmp 6)), []⟩,
            ⟨5, some 51, none, .op .quiet (oFieldAddr 0 (.tmp 50)), []⟩,
            ⟨6, some 52, none, .op .reads (oLoad (.tmp 51)), []⟩,
            ⟨7, some 53, none, .op .quiet (oIdxS 1 (.tmp 49) (.tmp 52)), []⟩,
            ⟨8, none, none, .op .hard (oStore 1 (.tmp 53) (.val (.int .i64 (-1)))), []⟩])
          (.skip))))))))
   (.seq
    (.seq
     (.ops [⟨0, some 54, none, .op .quiet (oMv (.tmp 0)), []⟩,
       ⟨1, some 55, none, .op .quiet (oNilCheck (.tmp 54)), []⟩,
       ⟨2, some 56, none, .op .quiet (oFieldAddr 10 (.tmp 55)), []⟩,
       ⟨3, some 57, none, .op .reads (oLoad (.tmp 56)), []⟩,
       ⟨4, some 58, none, .op .reads (oLen .slice (.tmp 57)), []⟩,
       ⟨5, some 59, none, .op .quiet (oArith .gtr (.tmp 58) (.val (.int .i64 0))), []⟩])
     (.cond (.tmp 59)
      (.seq
       (.ops [⟨0, some 60, none, .op .quiet (oMv (.tmp 0)), []⟩,
         ⟨1, some 61, none, .callF 303 [(.tmp 60)], []⟩,
         ⟨2, some 7, none, .op .quiet (oAlloc [(.int .i64 0), (.int .i64 0), (.int .i64 0), (.int .i64 0)]), []⟩,
         ⟨3, none, none, .op .hard (oStore 4 (.tmp 7) (.tmp 61)), []⟩])
       (.seq
        (.ops [⟨0, some 62, none, .op .quiet (oMv (.tmp 0)), []⟩,
          ⟨1, some 63, none, .op .quiet (oFieldAddr 0 (.tmp 7)), []⟩,
          ⟨2, some 64, none, .op .reads (oLoadN 2 (.tmp 63)), []⟩,
          ⟨3, some 65, none, .op .quiet (oFieldAddr 2 (.tmp 7)), []⟩,
          ⟨4, some 66, none, .op .reads (oLoadN 2 (.tmp 65)), []⟩,
          ⟨5, some 67, none, .op .quiet (oMv (.tmp 2)), []⟩,
          ⟨6, some 68, none, .callF 304 [(.tmp 62), (.tmp 64), (.tmp 66), (.tmp 67)], []⟩,
          ⟨7, some 69, none, .op .quiet (oFieldAddr 0 (.tmp 7)), []⟩,
          ⟨8, none, none, .op .hard (oStore 2 (.tmp 69) (.tmp 68)), []⟩])
        (.seq
         (.ops [⟨0, some 70, none, .op .quiet (oMv (.tmp 0)), []⟩,
           ⟨1, some 71, none, .op .quiet (oFieldAddr 2 (.tmp 7)), []⟩,
           ⟨2, some 72, none, .op .reads (oLoadN 2 (.tmp 71)), []⟩,
           ⟨3, some 73, none, .op .quiet (oFieldAddr 0 (.tmp 7)), []⟩,
           ⟨4, some 74, none, .op .reads (oLoadN 2 (.tmp 73)), []⟩,
           ⟨5, some 75, none, .op .quiet (oMv (.tmp 2)), []⟩,
           ⟨6, some 76, none, .callF 304 [(.tmp 70), (.tmp 72), (.tmp 74), (.tmp 75)], []⟩,
           ⟨7, some 77, none, .op .quiet (oFieldAddr 2 (.tmp 7)), []⟩,
           ⟨8, none, none, .op .hard (oStore 2 (.tmp 77) (.tmp 76)), []⟩])
         (.drawn [⟨0, some 78, none, .op .quiet (oMv (.tmp 0)), []⟩,
           ⟨1, some 79, none, .op .quiet (oMv (.tmp 0)), []⟩,
           ⟨2, some 80, none, .op .quiet (oNilCheck (.tmp 79)), []⟩,
           ⟨3, some 81, none, .op .quiet (oFieldAddr 10 (.tmp 80)), []⟩,
           ⟨4, some 82, none, .op .reads (oLoad (.tmp 81)), []⟩,
           ⟨5, some 83, none, .op .reads (oLoadN 4 (.tmp 7)), []⟩,
           ⟨6, some 84, none, .op .quiet (oBuildSlice 4 1 [(.int .i64 0), (.int .i64 0), (.int .i64 0), (.int .i64 0)] [(0, 4)] [(.tmp 83)]), []⟩,
           ⟨7, some 85, none, .op .hard (oAppend 4 32 (.tmp 82) (.tmp 84)), []⟩,
           ⟨8, some 86, none, .op .quiet (oNilCheck (.tmp 78)), []⟩,
           ⟨9, some 87, none, .op .quiet (oFieldAddr 10 (.tmp 86)), []⟩,
           ⟨10, none, none, .op .hard (oStore 1 (.tmp 87) (.tmp 85)), []⟩]))))
      (.skip)))
    (.seq
     (.seq
      (.drawn [⟨0, some 88, none, .op .quiet (oMv (.tmp 0)), []⟩,
        ⟨1, some 89, none, .op .quiet (oNilCheck (.tmp 88)), []⟩,
        ⟨2, some 90, none, .op .quiet (oFieldAddr 6 (.tmp 89)), []⟩,
        ⟨3, some 91, none, .op .quiet (oFieldAddr 0 (.tmp 90)), []⟩,
        ⟨4, some 92, none, .op .reads (oLoad (.tmp 91)), []⟩,
        ⟨5, some 93, none, .op .quiet (oMv (.tmp 1)), []⟩,
        ⟨6, some 94, none, .op .quiet (oIdxS 1 (.tmp 92) (.tmp 93)), []⟩,
        ⟨7, some 95, none, .op .reads (oLoad (.tmp 94)), []⟩,
        ⟨8, some 96, none, .op .quiet (oMv (.tmp 0)), []⟩,
        ⟨9, some 97, none, .op .quiet (oNilCheck (.tmp 96)), []⟩,
        ⟨10, some 98, none, .op .quiet (oFieldAddr 2 (.tmp 97)), []⟩,
        ⟨11, some 99, none, .op .quiet (oFieldAddr 1 (.tmp 98)), []⟩,
        ⟨12, some 100, none, .op .reads (oLoad (.tmp 99)), []⟩,
        ⟨13, some 101, none, .op .quiet (oMv (.tmp 2)), []⟩,
        ⟨14, some 102, none, .op .quiet (oIdxS 1 (.tmp 100) (.tmp 101)), []⟩,
        ⟨15, some 103, none, .op .reads (oLoad (.tmp 102)), []⟩,
        ⟨16, some 104, none, .op .quiet (oArith .geq (.tmp 95) (.tmp 103)), []⟩])
      (.cond (.tmp 104)
       (.ret)
       (.skip)))
     (.seq
      (.drawn [⟨0, some 105, none, .op .quiet (oMv (.tmp 0)), []⟩,
        ⟨1, some 106, none, .op .quiet (oNilCheck (.tmp 105)), []⟩,
        ⟨2, some 107, none, .op .quiet (oFieldAddr 10 (.tmp 106)), []⟩,
        ⟨3, some 108, none, .op .reads (oLoad (.tmp 107)), []⟩,
        ⟨4, some 109, none, .op .quiet (oMv (.tmp 0)), []⟩,
        ⟨5, some 110, none, .op .quiet (oNilCheck (.tmp 109)), []⟩,
        ⟨6, some 111, none, .op .quiet (oFieldAddr 10 (.tmp 110)), []⟩,
        ⟨7, some 112, none, .op .reads (oLoad (.tmp 111)), []⟩,
        ⟨8, some 113, none, .op .reads (oLen .slice (.tmp 112)), []⟩,
        ⟨9, some 114, none, .op .quiet (oArith .sub (.tmp 113) (.val (.int .i64 1))), []⟩,
        ⟨10, some 115, none, .op .quiet (oIdxS 4 (.tmp 108) (.tmp 114)), []⟩,
        ⟨11, some 116, none, .op .reads (oLoadN 4 (.tmp 115)), []⟩,
        ⟨12, some 8, none, .op .quiet (oAlloc [(.int .i64 0), (.int .i64 0), (.int .i64 0), (.int .i64 0)]), []⟩,
        ⟨13, none, none, .op .hard (oStore 4 (.tmp 8) (.tmp 116)), []⟩])
      (.seq
       (.drawn [⟨0, some 117, none, .op .quiet (oFieldAddr 0 (.tmp 8)), []⟩,
         ⟨1, some 118, none, .op .reads (oLoadN 2 (.tmp 117)), []⟩,
         ⟨2, some 119, none, .op .reads (oLoadN 2 (.val (.pointer (some ⟨0, 0, none⟩)))), []⟩,
         ⟨3, some 120, none, .op .quiet (oEq true (.ints 2) (.tmp 118) (.tmp 119)), []⟩,
         ⟨4, some 121, none, .op .quiet (oMv (.tmp 120)), []⟩,
         ⟨5, some 122, some (121, true), .op .quiet (oFieldAddr 2 (.tmp 8)), []⟩,
         ⟨6, some 123, some (121, true), .op .reads (oLoadN 2 (.tmp 122)), []⟩,
         ⟨7, some 124, some (121, true), .op .reads (oLoadN 2 (.val (.pointer (some ⟨0, 0, none⟩)))), []⟩,
         ⟨8, some 125, some (121, true), .op .quiet (oEq false (.ints 2) (.tmp 123) (.tmp 124)), []⟩,
         ⟨9, some 126, some (121, true), .op .quiet (oMv (.tmp 125)), []⟩,
         ⟨10, some 127, some (126, false), .op .quiet (oMv (.tmp 0)), []⟩,
         ⟨11, some 128, some (126, false), .op .quiet (oNilCheck (.tmp 127)), []⟩,
         ⟨12, some 129, some (126, false), .op .quiet (oFieldAddr 6 (.tmp 128)), []⟩,
         ⟨13, some 130, some (126, false), .op .quiet (oFieldAddr 0 (.tmp 129)), []⟩,
         ⟨14, some 131, some (126, false), .op .reads (oLoad (.tmp 130)), []⟩,
         ⟨15, some 132, some (126, false), .op .quiet (oFieldAddr 0 (.tmp 8)), []⟩,
         ⟨16, some 133, some (126, false), .op .quiet (oFieldAddr 1 (.tmp 132)), []⟩,
         ⟨17, some 134, some (126, false), .op .reads (oLoad (.tmp 133)), []⟩,
         ⟨18, some 135, some (126, false), .op .quiet (oIdxS 1 (.tmp 131) (.tmp 134)), []⟩,
         ⟨19, some 136, some (126, false), .op .reads (oLoad (.tmp 135)), []⟩,
         ⟨20, some 137, some (126, false), .op .quiet (oMv (.tmp 0)), []⟩,
         ⟨21, some 138, some (126, false), .op .quiet (oNilCheck (.tmp 137)), []⟩,
         ⟨22, some 139, some (126, false), .op .quiet (oFieldAddr 6 (.tmp 138)), []⟩,
         ⟨23, some 140, some (126, false), .op .quiet (oFieldAddr 0 (.tmp 139)), []⟩,
         ⟨24, some 141, some (126, false), .op .reads (oLoad (.tmp 140)), []⟩,
         ⟨25, some 142, some (126, false), .op .quiet (oFieldAddr 2 (.tmp 8)), []⟩,
         ⟨26, some 143, some (126, false), .op .quiet (oFieldAddr 1 (.tmp 142)), []⟩,
         ⟨27, some 144, some (126, false), .op .reads (oLoad (.tmp 143)), []⟩,
         ⟨28, some 145, some (126, false), .op .quiet (oIdxS 1 (.tmp 141) (.tmp 144)), []⟩,
         ⟨29, some 146, some (126, false), .op .reads (oLoad (.tmp 145)), []⟩,
         ⟨30, some 147, some (126, false), .op .quiet (oArith .gtr (.tmp 136) (.tmp 146)), []⟩,
         ⟨31, some 148, some (121, true), .op .quiet (oPick (.tmp 126) (.val (.bool true)) (.tmp 147)), []⟩,
         ⟨32, some 149, none, .op .quiet (oPick (.tmp 121) (.tmp 148) (.val (.bool false))), []⟩])
       (.cond (.tmp 149)
        (.drawn [⟨0, some 150, none, .op .quiet (oMv (.tmp 0)), []⟩,
          ⟨1, some 151, none, .op .quiet (oNilCheck (.tmp 150)), []⟩,
          ⟨2, some 152, none, .op .quiet (oFieldAddr 11 (.tmp 151)), []⟩,
          ⟨3, some 153, none, .op .reads (oLoad (.tmp 152)), []⟩,
          ⟨4, some 154, none, .op .quiet (oMv (.tmp 1)), []⟩,
          ⟨5, some 155, none, .op .quiet (oFieldAddr 0 (.tmp 8)), []⟩,
          ⟨6, some 156, none, .op .quiet (oFieldAddr 1 (.tmp 155)), []⟩,
          ⟨7, some 157, none, .op .reads (oLoad (.tmp 156)), []⟩,
          ⟨8, some 158, none, .op .quiet (oIdxS 1 (.tmp 153) (.tmp 154)), []⟩,
          ⟨9, none, none, .op .hard (oStore 1 (.tmp 158) (.tmp 157)), []⟩])
        (.drawn [⟨0, some 159, none, .op .quiet (oMv (.tmp 0)), []⟩,
          ⟨1, some 160, none, .op .quiet (oNilCheck (.tmp 159)), []⟩,
          ⟨2, some 161, none, .op .quiet (oFieldAddr 11 (.tmp 160)), []⟩,
          ⟨3, some 162, none, .op .reads (oLoad (.tmp 161)), []⟩,
          ⟨4, some 163, none, .op .quiet (oMv (.tmp 1)), []⟩,
          ⟨5, some 164, none, .op .quiet (oFieldAddr 2 (.tmp 8)), []⟩,
          ⟨6, some 165, none, .op .quiet (oFieldAddr 1 (.tmp 164)), []⟩,
          ⟨7, some 166, none, .op .reads (oLoad (.tmp 165)), []⟩,
          ⟨8, some 167, none, .op .quiet (oIdxS 1 (.tmp 162) (.tmp 163)), []⟩,
          ⟨9, none, none, .op .hard (oStore 1 (.tmp 167) (.tmp 166)), []⟩])))))))⟩
/-- tangram/rot.caught$1 -/
noncomputable def a202 : AF := ⟨[],
 (.seq
   (.ops [⟨0, some 5, none, .recover, []⟩,
     ⟨1, some 2, none, .op .quiet (oMv (.tmp 5)), []⟩])
   (.seq
    (.ops [⟨0, some 6, none, .op .quiet (oMv (.tmp 2)), []⟩,
      ⟨1, some 7, none, .op .quiet (oEq true .ifaceNil (.tmp 6) (.val .nilIface)), []⟩])
    (.cond (.tmp 7)
     (.seq
      (.ops [⟨0, some 9, none, .op .quiet (oMv (.tmp 2)), []⟩,
        ⟨1, some 10, none, .op .quiet (oAssert 250 true (.agg #[(.int .i64 0), (.int .i64 0)]) (.tmp 9)), []⟩,
        ⟨2, some 8, none, .op .quiet (oMv (.tmp 10)), []⟩,
        ⟨3, some 11, none, .op .quiet (oExtract 0 (.tmp 8)), []⟩,
        ⟨4, some 12, none, .op .quiet (oExtract 1 (.tmp 8)), []⟩,
        ⟨5, some 3, none, .op .quiet (oAlloc [(.int .i64 0), (.int .i64 0)]), []⟩,
        ⟨6, none, none, .op .hard (oStore 2 (.tmp 3) (.tmp 11)), []⟩,
        ⟨7, some 4, none, .op .quiet (oMv (.tmp 12)), []⟩])
      (.seq
       (.seq
        (.ops [⟨0, some 13, none, .op .quiet (oMv (.tmp 4)), []⟩,
          ⟨1, some 14, none, .op .quiet (oNot (.tmp 13)), []⟩])
        (.cond (.tmp 14)
         (.ops [⟨0, some 15, none, .op .quiet (oMv (.tmp 2)), []⟩,
           ⟨1, none, none, .panic (.tmp 15), []⟩])
         (.skip)))
       (.drawn [⟨0, some 16, none, .op .quiet (oFieldAddr 0 (.tmp 3)), []⟩,
         ⟨1, some 17, none, .op .reads (oLoad (.tmp 16)), []⟩,
         ⟨2, some 18, none, .op .quiet (oFieldAddr 1 (.tmp 3)), []⟩,
         ⟨3, some 19, none, .op .reads (oLoad (.tmp 18)), []⟩,
         ⟨4, none, none, .op .hard (oStore 1 (.tmp 0) (.tmp 17)), [3]⟩,
         ⟨5, none, none, .op .hard (oStore 1 (.tmp 1) (.tmp 19)), []⟩])))
     (.skip))))⟩
/-- tangram/rot.must -/
noncomputable def a203 : AF := ⟨[],
 (.seq
   (.ops [⟨0, some 6, none, .op .quiet (oMv (.tmp 0)), []⟩,
     ⟨1, some 7, none, .op .quiet (oNot (.tmp 6)), []⟩])
   (.cond (.tmp 7)
    (.ops [⟨0, some 8, none, .op .quiet (oMv (.tmp 1)), []⟩,
      ⟨1, some 9, none, .op .quiet (oMv (.tmp 2)), []⟩,
      ⟨2, some 10, none, .op .quiet (oBuild [(.int .i64 0), (.int .i64 0)] [(0, 1), (1, 1)] [(.tmp 8), (.tmp 9)]), []⟩,
      ⟨3, some 11, none, .op .quiet (oIface 250 (.tmp 10)), []⟩,
      ⟨4, none, none, .panic (.tmp 11), []⟩])
    (.skip)))⟩
/-- tangram/simple.Degrees -/
noncomputable def a204 : AF := ⟨[.tmp 2, .tmp 3],
 (.seq
   (.ops [⟨0, some 1, none, .op .quiet (oBox (.tmp 0)), []⟩,
     ⟨1, some 2, none, .op .quiet (oMv (.val (.slice none 0 0))), []⟩,
     ⟨2, some 3, none, .op .quiet (oMv (.val (.int .i64 0))), []⟩])
   (.seq
    (.seq
     (.ops [⟨0, some 7, none, .op .reads (oLoadN 2 (.tmp 1)), []⟩,
       ⟨1, some 8, none, .callF 92 [(.tmp 7)], []⟩,
       ⟨2, some 9, none, .op .quiet (oNot (.tmp 8)), []⟩])
     (.cond (.tmp 9)
      (.seq
       (.ops [⟨0, some 2, none, .op .quiet (oMv (.val (.slice none 0 0))), []⟩,
         ⟨1, some 3, none, .op .quiet (oMv (.val (.int .i64 1))), []⟩])
       (.ret))
      (.skip)))
    (.seq
     (.ops [⟨0, some 10, none, .op .quiet (oFieldAddr 0 (.tmp 1)), []⟩,
       ⟨1, some 11, none, .op .reads (oLoad (.tmp 10)), []⟩,
       ⟨2, some 12, none, .op .quiet (oMkSlice 1 8 [(.int .i64 0)] (.tmp 11) (.tmp 11)), []⟩,
       ⟨3, some 4, none, .op .quiet (oMv (.tmp 12)), []⟩])
     (.seq
      (.seq
       (.ops [⟨0, some 13, none, .op .quiet (oFieldAddr 1 (.tmp 1)), []⟩,
         ⟨1, some 14, none, .op .reads (oLoad (.tmp 13)), []⟩,
         ⟨2, some 15, none, .op .reads (oLen .slice (.tmp 14)), []⟩,
         ⟨3, some 16, none, .op .quiet (oMv (.val (.int .i64 0))), []⟩])
       (.block 0
        (.loop
         (.seq
          (.ops [⟨0, some 17, none, .op .quiet (oArith .lss (.tmp 16) (.tmp 15)), []⟩])
          (.seq
           (.cond (.tmp 17)
            (.skip)
            (.exit 0))
           (.seq
            (.block 1
             (.seq
              (.ops [⟨0, some 18, none, .op .quiet (oIdxS 2 (.tmp 14) (.tmp 16)), []⟩,
                ⟨1, some 19, none, .op .reads (oLoadN 2 (.tmp 18)), []⟩,
                ⟨2, some 6, none, .op .quiet (oAlloc [(.int .i64 0), (.int .i64 0)]), []⟩,
                ⟨3, none, none, .op .hard (oStore 2 (.tmp 6) (.tmp 19)), []⟩])
              (.seq
               (.ops [⟨0, some 20, none, .op .quiet (oMv (.tmp 4)), []⟩,
                 ⟨1, some 21, none, .op .quiet (oFieldAddr 0 (.tmp 6)), []⟩,
                 ⟨2, some 22, none, .op .reads (oLoad (.tmp 21)), []⟩,
                 ⟨3, some 23, none, .op .quiet (oIdxS 1 (.tmp 20) (.tmp 22)), []⟩,
                 ⟨4, some 24, none, .op .reads (oLoad (.tmp 23)), []⟩,
                 ⟨5, some 25, none, .op .quiet (oArith .add (.tmp 24) (.val (.int .i64 1))), []⟩,
                 ⟨6, some 26, none, .op .quiet (oIdxS 1 (.tmp 20) (.tmp 22)), []⟩,
                 ⟨7, none, none, .op .hard (oStore 1 (.tmp 26) (.tmp 25)), []⟩])
               (.ops [⟨0, some 27, none, .op .quiet (oMv (.tmp 4)), []⟩,
                 ⟨1, some 28, none, .op .quiet (oFieldAddr 1 (.tmp 6)), []⟩,
                 ⟨2, some 29, none, .op .reads (oLoad (.tmp 28)), []⟩,
                 ⟨3, some 30, none, .op .quiet (oIdxS 1 (.tmp 27) (.tmp 29)), []⟩,
                 ⟨4, some 31, none, .op .reads (oLoad (.tmp 30)), []⟩,
                 ⟨5, some 32, none, .op .quiet (oArith .add (.tmp 31) (.val (.int .i64 1))), []⟩,
                 ⟨6, some 33, none, .op .quiet (oIdxS 1 (.tmp 27) (.tmp 29)), []⟩,
                 ⟨7, none, none, .op .hard (oStore 1 (.tmp 33) (.tmp 32)), []⟩]))))
            (.ops [⟨0, some 34, none, .op .quiet (oArith .add (.tmp 16) (.val (.int .i64 1))), []⟩,
              ⟨1, some 16, none, .op .quiet (oMv (.tmp 34)), []⟩])))))))
      (.seq
       (.ops [⟨0, some 35, none, .op .quiet (oMv (.tmp 4)), []⟩,
         ⟨1, some 2, none, .op .quiet (oMv (.tmp 35)), []⟩,
         ⟨2, some 3, none, .op .quiet (oMv (.val (.int .i64 0))), []⟩])
       (.ret))))))⟩
/-- tangram/rot.begins -/
noncomputable def a205 : AF := ⟨[.tmp 2],
 (.seq
   (.ops [⟨0, some 1, none, .op .quiet (oBox (.tmp 0)), []⟩,
     ⟨1, some 2, none, .op .quiet (oMv (.val (.slice none 0 0))), []⟩])
   (.seq
    (.ops [⟨0, some 6, none, .op .quiet (oFieldAddr 1 (.tmp 1)), []⟩,
      ⟨1, some 7, none, .op .reads (oLoad (.tmp 6)), []⟩,
      ⟨2, some 8, none, .op .reads (oLen .slice (.tmp 7)), []⟩,
      ⟨3, some 9, none, .op .quiet (oArith .mul (.val (.int .i64 2)) (.tmp 8)), []⟩,
      ⟨4, some 10, none, .op .quiet (oMkSlice 1 8 [(.int .i64 0)] (.val (.int .i64 0)) (.tmp 9)), []⟩,
      ⟨5, some 3, none, .op .quiet (oMv (.tmp 10)), []⟩])
    (.seq
     (.seq
      (.ops [⟨0, some 11, none, .op .quiet (oFieldAddr 1 (.tmp 1)), []⟩,
        ⟨1, some 12, none, .op .reads (oLoad (.tmp 11)), []⟩,
        ⟨2, some 13, none, .op .reads (oLen .slice (.tmp 12)), []⟩,
        ⟨3, some 14, none, .op .quiet (oMv (.val (.int .i64 0))), []⟩])
      (.block 0
       (.loop
        (.seq
         (.ops [⟨0, some 15, none, .op .quiet (oArith .lss (.tmp 14) (.tmp 13)), []⟩])
         (.seq
          (.cond (.tmp 15)
           (.skip)
           (.exit 0))
          (.seq
           (.block 1
            (.seq
             (.ops [⟨0, some 16, none, .op .quiet (oIdxS 2 (.tmp 12) (.tmp 14)), []⟩,
               ⟨1, some 17, none, .op .reads (oLoadN 2 (.tmp 16)), []⟩,
               ⟨2, some 5, none, .op .quiet (oAlloc [(.int .i64 0), (.int .i64 0)]), []⟩,
               ⟨3, none, none, .op .hard (oStore 2 (.tmp 5) (.tmp 17)), []⟩])
             (.ops [⟨0, some 18, none, .op .quiet (oMv (.tmp 3)), []⟩,
               ⟨1, some 19, none, .op .quiet (oFieldAddr 0 (.tmp 5)), []⟩,
               ⟨2, some 20, none, .op .reads (oLoad (.tmp 19)), []⟩,
               ⟨3, some 21, none, .op .quiet (oFieldAddr 1 (.tmp 5)), []⟩,
               ⟨4, some 22, none, .op .reads (oLoad (.tmp 21)), []⟩,
               ⟨5, some 23, none, .op .quiet (oBuildSlice 1 2 [(.int .i64 0)] [(0, 1), (1, 1)] [(.tmp 20), (.tmp 22)]), []⟩,
               ⟨6, some 24, none, .op .hard (oAppend 1 8 (.tmp 18) (.tmp 23)), []⟩,
               ⟨7, some 3, none, .op .quiet (oMv (.tmp 24)), []⟩])))
           (.ops [⟨0, some 25, none, .op .quiet (oArith .add (.tmp 14) (.val (.int .i64 1))), []⟩,
             ⟨1, some 14, none, .op .quiet (oMv (.tmp 25)), []⟩])))))))
     (.seq
      (.ops [⟨0, some 26, none, .op .quiet (oMv (.tmp 3)), []⟩,
        ⟨1, some 2, none, .op .quiet (oMv (.tmp 26)), []⟩])
      (.ret)))))⟩
/-- tangram/rot.Next -/
noncomputable def a255 : AF := ⟨[.tmp 4, .tmp 5],
 (.seq
   (.ops [⟨0, some 2, none, .op .quiet (oBox (.tmp 0)), []⟩,
     ⟨1, some 4, none, .op .quiet (oMv (.val (.slice none 0 0))), []⟩,
     ⟨2, some 5, none, .op .quiet (oMv (.val (.int .i64 0))), []⟩])
   (.seq
    (.seq
     (.ops [⟨0, some 14, none, .op .reads (oLoadN 2 (.tmp 2)), []⟩,
       ⟨1, some 15, none, .op .quiet (oMv (.tmp 1)), []⟩,
       ⟨2, some 16, none, .callF 53 [(.tmp 14), (.tmp 15)], []⟩,
       ⟨3, some 13, none, .op .quiet (oMv (.tmp 16)), []⟩,
       ⟨4, some 17, none, .op .quiet (oExtract 0 (.tmp 13)), []⟩,
       ⟨5, some 18, none, .op .quiet (oExtract 1 (.tmp 13)), []⟩,
       ⟨6, some 6, none, .op .quiet (oMv (.tmp 17)), []⟩,
       ⟨7, some 7, none, .op .quiet (oMv (.tmp 18)), []⟩])
     (.seq
      (.ops [⟨0, some 19, none, .op .quiet (oMv (.tmp 7)), []⟩,
        ⟨1, some 20, none, .op .quiet (oArith .neq (.tmp 19) (.val (.int .i64 0))), []⟩])
      (.cond (.tmp 20)
       (.seq
        (.ops [⟨0, some 21, none, .op .quiet (oMv (.tmp 7)), []⟩,
          ⟨1, some 4, none, .op .quiet (oMv (.val (.slice none 0 0))), []⟩,
          ⟨2, some 5, none, .op .quiet (oMv (.tmp 21)), []⟩])
        (.ret))
       (.skip))))
    (.seq
     (.ops [⟨0, some 22, none, .op .quiet (oFieldAddr 1 (.tmp 2)), []⟩,
       ⟨1, some 23, none, .op .reads (oLoad (.tmp 22)), []⟩,
       ⟨2, some 24, none, .op .reads (oLen .slice (.tmp 23)), []⟩,
       ⟨3, some 25, none, .op .quiet (oArith .mul (.val (.int .i64 2)) (.tmp 24)), []⟩,
       ⟨4, some 26, none, .op .quiet (oMkSlice 1 8 [(.int .i64 0)] (.tmp 25) (.tmp 25)), []⟩,
       ⟨5, some 8, none, .op .quiet (oMv (.tmp 26)), []⟩])
     (.seq
      (.seq
       (.ops [⟨0, some 27, none, .op .quiet (oMv (.tmp 1)), []⟩,
         ⟨1, some 28, none, .op .reads (oLen .slice (.tmp 27)), []⟩,
         ⟨2, some 29, none, .op .quiet (oMv (.val (.int .i64 0))), []⟩])
       (.block 0
        (.loop
         (.seq
          (.ops [⟨0, some 30, none, .op .quiet (oArith .lss (.tmp 29) (.tmp 28)), []⟩])
          (.seq
           (.cond (.tmp 30)
            (.skip)
            (.exit 0))
           (.seq
            (.block 1
             (.seq
              (.ops [⟨0, some 31, none, .op .quiet (oIdxS 1 (.tmp 27) (.tmp 29)), []⟩,
                ⟨1, some 32, none, .op .reads (oLoad (.tmp 31)), []⟩,
                ⟨2, some 10, none, .op .quiet (oMv (.tmp 32)), []⟩])
              (.seq
               (.ops [⟨0, some 33, none, .op .quiet (oMv (.tmp 10)), []⟩,
                 ⟨1, some 34, none, .op .reads (oLen .slice (.tmp 33)), []⟩,
                 ⟨2, some 35, none, .op .quiet (oMv (.val (.int .i64 0))), []⟩])
               (.block 2
                (.loop
                 (.seq
                  (.ops [⟨0, some 36, none, .op .quiet (oArith .lss (.tmp 35) (.tmp 34)), []⟩])
                  (.seq
                   (.cond (.tmp 36)
                    (.skip)
                    (.exit 2))
                   (.seq
                    (.block 3
                     (.seq
                      (.ops [⟨0, some 37, none, .op .quiet (oMv (.tmp 35)), []⟩,
                        ⟨1, some 38, none, .op .quiet (oIdxS 1 (.tmp 33) (.tmp 35)), []⟩,
                        ⟨2, some 39, none, .op .reads (oLoad (.tmp 38)), []⟩,
                        ⟨3, some 11, none, .op .quiet (oMv (.tmp 37)), []⟩,
                        ⟨4, some 12, none, .op .quiet (oMv (.tmp 39)), []⟩])
                      (.ops [⟨0, some 40, none, .op .quiet (oMv (.tmp 8)), []⟩,
                        ⟨1, some 41, none, .op .quiet (oMv (.tmp 12)), []⟩,
                        ⟨2, some 42, none, .op .quiet (oMv (.tmp 10)), []⟩,
                        ⟨3, some 43, none, .op .quiet (oMv (.tmp 11)), []⟩,
                        ⟨4, some 44, none, .op .quiet (oArith .add (.tmp 43) (.val (.int .i64 1))), []⟩,
                        ⟨5, some 45, none, .op .quiet (oMv (.tmp 10)), []⟩,
                        ⟨6, some 46, none, .op .reads (oLen .slice (.tmp 45)), []⟩,
                        ⟨7, some 47, none, .op .quiet (oArith .rem (.tmp 44) (.tmp 46)), []⟩,
                        ⟨8, some 48, none, .op .quiet (oIdxS 1 (.tmp 42) (.tmp 47)), []⟩,
                        ⟨9, some 49, none, .op .reads (oLoad (.tmp 48)), []⟩,
                        ⟨10, some 50, none, .op .quiet (oIdxS 1 (.tmp 40) (.tmp 41)), []⟩,
                        ⟨11, none, none, .op .hard (oStore 1 (.tmp 50) (.tmp 49)), []⟩])))
                    (.ops [⟨0, some 51, none, .op .quiet (oArith .add (.tmp 35) (.val (.int .i64 1))), []⟩,
                      ⟨1, some 35, none, .op .quiet (oMv (.tmp 51)), []⟩])))))))))
            (.ops [⟨0, some 52, none, .op .quiet (oArith .add (.tmp 29) (.val (.int .i64 1))), []⟩,
              ⟨1, some 29, none, .op .quiet (oMv (.tmp 52)), []⟩])))))))
      (.seq
       (.ops [⟨0, some 53, none, .op .quiet (oMv (.tmp 8)), []⟩,
         ⟨1, some 4, none, .op .quiet (oMv (.tmp 53)), []⟩,
         ⟨2, some 5, none, .op .quiet (oMv (.val (.int .i64 0))), []⟩])
       (.ret))))))⟩
/-- tangram/comps.New -/
noncomputable def a256 : AF := ⟨[.tmp 2, .tmp 3],
 (.seq
   (.ops [⟨0, some 2, none, .op .quiet (oMv (.val (.pointer none))), []⟩,
     ⟨1, some 3, none, .op .quiet (oMv (.val (.int .i64 0))), []⟩])
   (.seq
    (.seq
     (.ops [⟨0, some 6, none, .op .quiet (oMv (.tmp 0)), []⟩,
       ⟨1, some 7, none, .op .quiet (oArith .lss (.tmp 6) (.val (.int .i64 0))), []⟩,
       ⟨2, some 8, none, .op .quiet (oMv (.tmp 7)), []⟩,
       ⟨3, some 9, some (8, false), .op .quiet (oMv (.tmp 0)), []⟩,
       ⟨4, some 10, some (8, false), .op .quiet (oArith .gtr (.tmp 9) (.val (.int .i64 1048576))), []⟩,
       ⟨5, some 11, none, .op .quiet (oPick (.tmp 8) (.val (.bool true)) (.tmp 10)), []⟩])
     (.cond (.tmp 11)
      (.seq
       (.ops [⟨0, some 2, none, .op .quiet (oMv (.val (.pointer none))), []⟩,
         ⟨1, some 3, none, .op .quiet (oMv (.val (.int .i64 2))), []⟩])
       (.ret))
      (.skip)))
    (.seq
     (.drawn [⟨0, some 12, none, .op .quiet (oMv (.tmp 0)), []⟩,
       ⟨1, some 13, none, .op .quiet (oMkSlice 1 8 [(.int .i64 0)] (.tmp 12) (.tmp 12)), []⟩,
       ⟨2, some 14, none, .op .quiet (oMv (.tmp 0)), []⟩,
       ⟨3, some 15, none, .op .quiet (oMkSlice 1 8 [(.int .i64 0)] (.tmp 14) (.tmp 14)), []⟩,
       ⟨4, some 16, none, .op .quiet (oMv (.tmp 0)), []⟩,
       ⟨5, some 17, none, .op .quiet (oBuild [(.slice none 0 0), (.slice none 0 0), (.int .i64 0)] [(0, 1), (1, 1), (2, 1)] [(.tmp 13), (.tmp 15), (.tmp 16)]), []⟩,
       ⟨6, some 18, none, .op .quiet (oBox (.tmp 17)), []⟩,
       ⟨7, some 4, none, .op .quiet (oMv (.tmp 18)), []⟩])
     (.seq
      (.seq
       (.ops [⟨0, some 19, none, .op .quiet (oMv (.tmp 0)), []⟩,
         ⟨1, some 20, none, .op .quiet (oMv (.val (.int .i64 0))), []⟩])
       (.block 0
        (.loop
         (.seq
          (.ops [⟨0, some 21, none, .op .quiet (oArith .lss (.tmp 20) (.tmp 19)), []⟩])
          (.seq
           (.cond (.tmp 21)
            (.skip)
            (.exit 0))
           (.seq
            (.block 1
             (.seq
              (.ops [⟨0, some 22, none, .op .quiet (oMv (.tmp 20)), []⟩,
                ⟨1, some 5, none, .op .quiet (oMv (.tmp 22)), []⟩])
              (.drawn [⟨0, some 23, none, .op .quiet (oMv (.tmp 4)), []⟩,
                ⟨1, some 24, none, .op .quiet (oNilCheck (.tmp 23)), []⟩,
                ⟨2, some 25, none, .op .quiet (oFieldAddr 0 (.tmp 24)), []⟩,
                ⟨3, some 26, none, .op .reads (oLoad (.tmp 25)), []⟩,
                ⟨4, some 27, none, .op .quiet (oMv (.tmp 5)), []⟩,
                ⟨5, some 28, none, .op .quiet (oMv (.tmp 4)), []⟩,
                ⟨6, some 29, none, .op .quiet (oNilCheck (.tmp 28)), []⟩,
                ⟨7, some 30, none, .op .quiet (oFieldAddr 1 (.tmp 29)), []⟩,
                ⟨8, some 31, none, .op .reads (oLoad (.tmp 30)), []⟩,
                ⟨9, some 32, none, .op .quiet (oMv (.tmp 5)), []⟩,
                ⟨10, some 33, none, .op .quiet (oMv (.tmp 5)), []⟩,
                ⟨11, some 34, none, .op .quiet (oIdxS 1 (.tmp 26) (.tmp 27)), []⟩,
                ⟨12, none, none, .op .hard (oStore 1 (.tmp 34) (.tmp 33)), []⟩,
                ⟨13, some 35, none, .op .quiet (oIdxS 1 (.tmp 31) (.tmp 32)), []⟩,
                ⟨14, none, none, .op .hard (oStore 1 (.tmp 35) (.val (.int .i64 1))), []⟩])))
            (.ops [⟨0, some 36, none, .op .quiet (oArith .add (.tmp 20) (.val (.int .i64 1))), []⟩,
              ⟨1, some 20, none, .op .quiet (oMv (.tmp 36)), []⟩])))))))
      (.seq
       (.ops [⟨0, some 37, none, .op .quiet (oMv (.tmp 4)), []⟩,
         ⟨1, some 2, none, .op .quiet (oMv (.tmp 37)), []⟩,
         ⟨2, some 3, none, .op .quiet (oMv (.val (.int .i64 0))), []⟩])
       (.ret))))))⟩
/-- (*tangram/comps.Sets).Join -/
noncomputable def a257 : AF := ⟨[.tmp 6],
 (.seq
   (.ops [⟨0, some 6, none, .op .quiet (oMv (.val (.bool false))), []⟩])
   (.seq
    (.seq
     (.ops [⟨0, some 9, none, .op .quiet (oMv (.tmp 0)), []⟩,
       ⟨1, some 10, none, .op .quiet (oMv (.tmp 1)), []⟩,
       ⟨2, some 11, none, .callF 309 [(.tmp 9), (.tmp 10)], []⟩,
       ⟨3, some 12, none, .op .quiet (oNot (.tmp 11)), []⟩,
       ⟨4, some 13, none, .op .quiet (oMv (.tmp 12)), []⟩,
       ⟨5, some 14, some (13, false), .op .quiet (oMv (.tmp 0)), []⟩,
       ⟨6, some 15, some (13, false), .op .quiet (oMv (.tmp 2)), []⟩,
       ⟨7, some 16, some (13, false), .callF 309 [(.tmp 14), (.tmp 15)], []⟩,
       ⟨8, some 17, some (13, false), .op .quiet (oNot (.tmp 16)), []⟩,
       ⟨9, some 18, none, .op .quiet (oPick (.tmp 13) (.val (.bool true)) (.tmp 17)), []⟩])
     (.cond (.tmp 18)
      (.seq
       (.ops [⟨0, some 6, none, .op .quiet (oMv (.val (.bool false))), []⟩])
       (.ret))
      (.skip)))
    (.seq
     (.drawn [⟨0, some 19, none, .op .quiet (oMv (.tmp 0)), []⟩,
       ⟨1, some 20, none, .op .quiet (oNilCheck (.tmp 19)), []⟩,
       ⟨2, some 21, none, .op .quiet (oFieldAddr 0 (.tmp 20)), []⟩,
       ⟨3, some 22, none, .op .reads (oLoad (.tmp 21)), []⟩,
       ⟨4, some 23, none, .op .quiet (oMv (.tmp 1)), []⟩,
       ⟨6, some 25, none, .op .quiet (oMv (.tmp 0)), []⟩,
       ⟨7, some 26, none, .op .quiet (oNilCheck (.tmp 25)), []⟩,
       ⟨8, some 27, none, .op .quiet (oFieldAddr 0 (.tmp 26)), []⟩,
       ⟨9, some 28, none, .op .reads (oLoad (.tmp 27)), []⟩,
       ⟨10, some 29, none, .op .quiet (oMv (.tmp 2)), []⟩,
       ⟨5, some 24, none, .callF 310 [(.tmp 22), (.tmp 23)], [9]⟩,
       ⟨11, some 30, none, .callF 310 [(.tmp 28), (.tmp 29)], []⟩,
       ⟨12, some 7, none, .op .quiet (oMv (.tmp 24)), []⟩,
       ⟨13, some 8, none, .op .quiet (oMv (.tmp 30)), []⟩])
     (.seq
      (.seq
       (.ops [⟨0, some 31, none, .op .quiet (oMv (.tmp 7)), []⟩,
         ⟨1, some 32, none, .op .quiet (oMv (.tmp 8)), []⟩,
         ⟨2, some 33, none, .op .quiet (oArith .eql (.tmp 31) (.tmp 32)), []⟩])
       (.cond (.tmp 33)
        (.seq
         (.ops [⟨0, some 6, none, .op .quiet (oMv (.val (.bool false))), []⟩])
         (.ret))
        (.skip)))
      (.seq
       (.ops [⟨0, some 34, none, .op .quiet (oMv (.tmp 7)), []⟩,
         ⟨1, some 35, none, .op .quiet (oMv (.tmp 8)), []⟩,
         ⟨2, some 36, none, .op .quiet (oMin (.tmp 34) [(.tmp 35)]), []⟩,
         ⟨3, some 37, none, .op .quiet (oMv (.tmp 7)), []⟩,
         ⟨4, some 38, none, .op .quiet (oMv (.tmp 8)), []⟩,
         ⟨5, some 39, none, .op .quiet (oMax (.tmp 37) [(.tmp 38)]), []⟩,
         ⟨6, some 7, none, .op .quiet (oMv (.tmp 36)), []⟩,
         ⟨7, some 8, none, .op .quiet (oMv (.tmp 39)), []⟩])
       (.seq
        (.ops [⟨0, some 40, none, .op .quiet (oMv (.tmp 0)), []⟩,
          ⟨1, some 41, none, .op .quiet (oNilCheck (.tmp 40)), []⟩,
          ⟨2, some 42, none, .op .quiet (oFieldAddr 0 (.tmp 41)), []⟩,
          ⟨3, some 43, none, .op .reads (oLoad (.tmp 42)), []⟩,
          ⟨4, some 44, none, .op .quiet (oMv (.tmp 8)), []⟩,
          ⟨5, some 45, none, .op .quiet (oMv (.tmp 7)), []⟩,
          ⟨6, some 46, none, .op .quiet (oIdxS 1 (.tmp 43) (.tmp 44)), []⟩,
          ⟨7, none, none, .op .hard (oStore 1 (.tmp 46) (.tmp 45)), []⟩])
        (.seq
         (.drawn [⟨0, some 47, none, .op .quiet (oMv (.tmp 0)), []⟩,
           ⟨1, some 48, none, .op .quiet (oNilCheck (.tmp 47)), []⟩,
           ⟨2, some 49, none, .op .quiet (oFieldAddr 1 (.tmp 48)), []⟩,
           ⟨3, some 50, none, .op .reads (oLoad (.tmp 49)), []⟩,
           ⟨4, some 51, none, .op .quiet (oMv (.tmp 7)), []⟩,
           ⟨5, some 52, none, .op .quiet (oIdxS 1 (.tmp 50) (.tmp 51)), []⟩,
           ⟨6, some 53, none, .op .reads (oLoad (.tmp 52)), []⟩,
           ⟨7, some 54, none, .op .quiet (oMv (.tmp 0)), []⟩,
           ⟨8, some 55, none, .op .quiet (oNilCheck (.tmp 54)), []⟩,
           ⟨9, some 56, none, .op .quiet (oFieldAddr 1 (.tmp 55)), []⟩,
           ⟨10, some 57, none, .op .reads (oLoad (.tmp 56)), []⟩,
           ⟨11, some 58, none, .op .quiet (oMv (.tmp 8)), []⟩,
           ⟨12, some 59, none, .op .quiet (oIdxS 1 (.tmp 57) (.tmp 58)), []⟩,
           ⟨13, some 60, none, .op .reads (oLoad (.tmp 59)), []⟩,
           ⟨14, some 61, none, .op .quiet (oArith .add (.tmp 53) (.tmp 60)), []⟩,
           ⟨15, some 62, none, .op .quiet (oIdxS 1 (.tmp 50) (.tmp 51)), []⟩,
           ⟨16, none, none, .op .hard (oStore 1 (.tmp 62) (.tmp 61)), []⟩])
         (.seq
          (.ops [⟨0, some 63, none, .op .quiet (oMv (.tmp 0)), []⟩,
            ⟨1, some 64, none, .op .quiet (oNilCheck (.tmp 63)), []⟩,
            ⟨2, some 65, none, .op .quiet (oFieldAddr 2 (.tmp 64)), []⟩,
            ⟨3, some 66, none, .op .reads (oLoad (.tmp 65)), []⟩,
            ⟨4, some 67, none, .op .quiet (oArith .sub (.tmp 66) (.val (.int .i64 1))), []⟩,
            ⟨5, some 68, none, .op .quiet (oNilCheck (.tmp 63)), []⟩,
            ⟨6, some 69, none, .op .quiet (oFieldAddr 2 (.tmp 68)), []⟩,
            ⟨7, none, none, .op .hard (oStore 1 (.tmp 69) (.tmp 67)), []⟩])
          (.seq
           (.ops [⟨0, some 6, none, .op .quiet (oMv (.val (.bool true))), []⟩])
           (.ret))))))))))⟩
/-- (*tangram/comps.Sets).numbers -/
noncomputable def a258 : AF := ⟨[.tmp 2, .tmp 3],
 (.seq
   (.ops [⟨0, some 2, none, .op .quiet (oMv (.val (.slice none 0 0))), []⟩,
     ⟨1, some 3, none, .op .quiet (oMv (.val (.int .i64 0))), []⟩])
   (.seq
    (.ops [⟨0, some 8, none, .op .quiet (oMv (.tmp 0)), []⟩,
      ⟨1, some 9, none, .op .quiet (oNilCheck (.tmp 8)), []⟩,
      ⟨2, some 10, none, .op .quiet (oFieldAddr 0 (.tmp 9)), []⟩,
      ⟨3, some 11, none, .op .reads (oLoad (.tmp 10)), []⟩,
      ⟨4, some 12, none, .op .reads (oLen .slice (.tmp 11)), []⟩,
      ⟨5, some 13, none, .op .quiet (oMkSlice 1 8 [(.int .i64 0)] (.tmp 12) (.tmp 12)), []⟩,
      ⟨6, some 4, none, .op .quiet (oMv (.tmp 13)), []⟩])
    (.seq
     (.ops [⟨0, some 5, none, .op .quiet (oMv (.val (.int .i64 0))), []⟩])
     (.seq
      (.seq
       (.ops [⟨0, some 14, none, .op .quiet (oMv (.tmp 4)), []⟩,
         ⟨1, some 15, none, .op .reads (oLen .slice (.tmp 14)), []⟩,
         ⟨2, some 16, none, .op .quiet (oMv (.val (.int .i64 0))), []⟩])
       (.block 0
        (.loop
         (.seq
          (.ops [⟨0, some 17, none, .op .quiet (oArith .lss (.tmp 16) (.tmp 15)), []⟩])
          (.seq
           (.cond (.tmp 17)
            (.skip)
            (.exit 0))
           (.seq
            (.block 1
             (.seq
              (.ops [⟨0, some 18, none, .op .quiet (oMv (.tmp 16)), []⟩,
                ⟨1, some 6, none, .op .quiet (oMv (.tmp 18)), []⟩])
              (.seq
               (.seq
                (.ops [⟨0, some 19, none, .op .quiet (oMv (.tmp 0)), []⟩,
                  ⟨1, some 20, none, .op .quiet (oNilCheck (.tmp 19)), []⟩,
                  ⟨2, some 21, none, .op .quiet (oFieldAddr 0 (.tmp 20)), []⟩,
                  ⟨3, some 22, none, .op .reads (oLoad (.tmp 21)), []⟩,
                  ⟨4, some 23, none, .op .quiet (oMv (.tmp 6)), []⟩,
                  ⟨5, some 24, none, .callF 310 [(.tmp 22), (.tmp 23)], []⟩,
                  ⟨6, some 7, none, .op .quiet (oMv (.tmp 24)), []⟩])
                (.seq
                 (.ops [⟨0, some 25, none, .op .quiet (oMv (.tmp 7)), []⟩,
                   ⟨1, some 26, none, .op .quiet (oMv (.tmp 6)), []⟩,
                   ⟨2, some 27, none, .op .quiet (oArith .lss (.tmp 25) (.tmp 26)), []⟩])
                 (.cond (.tmp 27)
                  (.seq
                   (.ops [⟨0, some 28, none, .op .quiet (oMv (.tmp 4)), []⟩,
                     ⟨1, some 29, none, .op .quiet (oMv (.tmp 6)), []⟩,
                     ⟨2, some 30, none, .op .quiet (oMv (.tmp 4)), []⟩,
                     ⟨3, some 31, none, .op .quiet (oMv (.tmp 7)), []⟩,
                     ⟨4, some 32, none, .op .quiet (oIdxS 1 (.tmp 30) (.tmp 31)), []⟩,
                     ⟨5, some 33, none, .op .reads (oLoad (.tmp 32)), []⟩,
                     ⟨6, some 34, none, .op .quiet (oIdxS 1 (.tmp 28) (.tmp 29)), []⟩,
                     ⟨7, none, none, .op .hard (oStore 1 (.tmp 34) (.tmp 33)), []⟩])
                   (.exit 1))
                  (.skip))))
               (.seq
                (.ops [⟨0, some 35, none, .op .quiet (oMv (.tmp 4)), []⟩,
                  ⟨1, some 36, none, .op .quiet (oMv (.tmp 6)), []⟩,
                  ⟨2, some 37, none, .op .quiet (oMv (.tmp 5)), []⟩,
                  ⟨3, some 38, none, .op .quiet (oIdxS 1 (.tmp 35) (.tmp 36)), []⟩,
                  ⟨4, none, none, .op .hard (oStore 1 (.tmp 38) (.tmp 37)), []⟩])
                (.ops [⟨0, some 39, none, .op .quiet (oMv (.tmp 5)), []⟩,
                  ⟨1, some 40, none, .op .quiet (oArith .add (.tmp 39) (.val (.int .i64 1))), []⟩,
                  ⟨2, some 5, none, .op .quiet (oMv (.tmp 40)), []⟩])))))
            (.ops [⟨0, some 41, none, .op .quiet (oArith .add (.tmp 16) (.val (.int .i64 1))), []⟩,
              ⟨1, some 16, none, .op .quiet (oMv (.tmp 41)), []⟩])))))))
      (.seq
       (.ops [⟨0, some 42, none, .op .quiet (oMv (.tmp 4)), []⟩,
         ⟨1, some 43, none, .op .quiet (oMv (.tmp 5)), []⟩,
         ⟨2, some 2, none, .op .quiet (oMv (.tmp 42)), []⟩,
         ⟨3, some 3, none, .op .quiet (oMv (.tmp 43)), []⟩])
       (.ret))))))⟩
/-- cmp.Or[int] -/
noncomputable def a270 : AF := ⟨[.tmp 2],
 (.seq
   (.ops [⟨0, some 2, none, .op .quiet (oMv (.val (.int .i64 0))), []⟩])
   (.seq
    (.ops [⟨0, some 3, none, .op .quiet (oMv (.val (.int .i64 0))), []⟩])
    (.seq
     (.seq
      (.ops [⟨0, some 6, none, .op .quiet (oMv (.tmp 0)), []⟩,
        ⟨1, some 7, none, .op .reads (oLen .slice (.tmp 6)), []⟩,
        ⟨2, some 8, none, .op .quiet (oMv (.val (.int .i64 0))), []⟩])
      (.block 0
       (.loop
        (.seq
         (.ops [⟨0, some 9, none, .op .quiet (oArith .lss (.tmp 8) (.tmp 7)), []⟩])
         (.seq
          (.cond (.tmp 9)
           (.skip)
           (.exit 0))
          (.seq
           (.block 1
            (.seq
             (.ops [⟨0, some 10, none, .op .quiet (oIdxS 1 (.tmp 6) (.tmp 8)), []⟩,
               ⟨1, some 11, none, .op .reads (oLoad (.tmp 10)), []⟩,
               ⟨2, some 5, none, .op .quiet (oMv (.tmp 11)), []⟩])
             (.seq
              (.ops [⟨0, some 12, none, .op .quiet (oMv (.tmp 5)), []⟩,
                ⟨1, some 13, none, .op .quiet (oMv (.tmp 3)), []⟩,
                ⟨2, some 14, none, .op .quiet (oArith .neq (.tmp 12) (.tmp 13)), []⟩])
              (.cond (.tmp 14)
               (.seq
                (.ops [⟨0, some 15, none, .op .quiet (oMv (.tmp 5)), []⟩,
                  ⟨1, some 2, none, .op .quiet (oMv (.tmp 15)), []⟩])
                (.ret))
               (.skip)))))
           (.ops [⟨0, some 16, none, .op .quiet (oArith .add (.tmp 8) (.val (.int .i64 1))), []⟩,
             ⟨1, some 8, none, .op .quiet (oMv (.tmp 16)), []⟩])))))))
     (.seq
      (.ops [⟨0, some 17, none, .op .quiet (oMv (.tmp 3)), []⟩,
        ⟨1, some 2, none, .op .quiet (oMv (.tmp 17)), []⟩])
      (.ret)))))⟩
/-- cmp.Compare[int] -/
noncomputable def a271 : AF := ⟨[.tmp 4],
 (.seq
   (.ops [⟨0, some 4, none, .op .quiet (oMv (.val (.int .i64 0))), []⟩])
   (.seq
    (.ops [⟨0, some 7, none, .op .quiet (oMv (.tmp 0)), []⟩,
      ⟨1, some 8, none, .callF 317 [(.tmp 7)], []⟩,
      ⟨2, some 5, none, .op .quiet (oMv (.tmp 8)), []⟩])
    (.seq
     (.ops [⟨0, some 9, none, .op .quiet (oMv (.tmp 1)), []⟩,
       ⟨1, some 10, none, .callF 317 [(.tmp 9)], []⟩,
       ⟨2, some 6, none, .op .quiet (oMv (.tmp 10)), []⟩])
     (.seq
      (.seq
       (.ops [⟨0, some 11, none, .op .quiet (oMv (.tmp 5)), []⟩])
       (.cond (.tmp 11)
        (.seq
         (.seq
          (.ops [⟨0, some 12, none, .op .quiet (oMv (.tmp 6)), []⟩])
          (.cond (.tmp 12)
           (.seq
            (.ops [⟨0, some 4, none, .op .quiet (oMv (.val (.int .i64 0))), []⟩])
            (.ret))
           (.skip)))
         (.seq
          (.ops [⟨0, some 4, none, .op .quiet (oMv (.val (.int .i64 (-1)))), []⟩])
          (.ret)))
        (.skip)))
      (.seq
       (.seq
        (.ops [⟨0, some 13, none, .op .quiet (oMv (.tmp 6)), []⟩])
        (.cond (.tmp 13)
         (.seq
          (.ops [⟨0, some 4, none, .op .quiet (oMv (.val (.int .i64 1))), []⟩])
          (.ret))
         (.skip)))
       (.seq
        (.seq
         (.ops [⟨0, some 14, none, .op .quiet (oMv (.tmp 0)), []⟩,
           ⟨1, some 15, none, .op .quiet (oMv (.tmp 1)), []⟩,
           ⟨2, some 16, none, .op .quiet (oArith .lss (.tmp 14) (.tmp 15)), []⟩])
         (.cond (.tmp 16)
          (.seq
           (.ops [⟨0, some 4, none, .op .quiet (oMv (.val (.int .i64 (-1)))), []⟩])
           (.ret))
          (.skip)))
        (.seq
         (.seq
          (.ops [⟨0, some 17, none, .op .quiet (oMv (.tmp 0)), []⟩,
            ⟨1, some 18, none, .op .quiet (oMv (.tmp 1)), []⟩,
            ⟨2, some 19, none, .op .quiet (oArith .gtr (.tmp 17) (.tmp 18)), []⟩])
          (.cond (.tmp 19)
           (.seq
            (.ops [⟨0, some 4, none, .op .quiet (oMv (.val (.int .i64 1))), []⟩])
            (.ret))
           (.skip)))
         (.seq
          (.ops [⟨0, some 4, none, .op .quiet (oMv (.val (.int .i64 0))), []⟩])
          (.ret)))))))))⟩
/-- tangram/tri.planeOf -/
noncomputable def a272 : AF := ⟨[.tmp 4],
 (.seq
   (.ops [⟨0, some 2, none, .op .quiet (oBox (.tmp 0)), []⟩,
     ⟨1, some 4, none, .op .quiet (oMv (.val (.pointer none))), []⟩])
   (.seq
    (.ops [⟨0, some 12, none, .op .reads (oLoadN 2 (.tmp 2)), []⟩,
      ⟨1, some 13, none, .op .quiet (oMv (.tmp 1)), []⟩,
      ⟨2, some 14, none, .callF 255 [(.tmp 12), (.tmp 13)], []⟩,
      ⟨3, some 11, none, .op .quiet (oMv (.tmp 14)), []⟩,
      ⟨4, some 15, none, .op .quiet (oExtract 0 (.tmp 11)), []⟩,
      ⟨5, some 16, none, .op .quiet (oExtract 1 (.tmp 11)), []⟩,
      ⟨6, some 5, none, .op .quiet (oMv (.tmp 15)), []⟩,
      ⟨7, some 6, none, .op .quiet (oMv (.tmp 16)), []⟩])
    (.seq
     (.drawn [⟨0, some 17, none, .op .quiet (oFieldAddr 0 (.tmp 2)), []⟩,
       ⟨1, some 18, none, .op .reads (oLoad (.tmp 17)), []⟩,
       ⟨2, some 19, none, .op .quiet (oMv (.tmp 5)), []⟩,
       ⟨3, some 20, none, .op .quiet (oFieldAddr 0 (.tmp 2)), []⟩,
       ⟨4, some 21, none, .op .reads (oLoad (.tmp 20)), []⟩,
       ⟨5, some 22, none, .op .quiet (oMkSlice 1 8 [(.int .i64 0)] (.tmp 21) (.tmp 21)), []⟩,
       ⟨6, some 23, none, .op .quiet (oMkMap), []⟩,
       ⟨7, some 24, none, .op .quiet (oBuild [(.int .i64 0), (.slice none 0 0), (.slice none 0 0), (.slice none 0 0), (.map none)] [(0, 1), (2, 1), (3, 1), (4, 1)] [(.tmp 18), (.tmp 19), (.tmp 22), (.tmp 23)]), []⟩,
       ⟨8, some 25, none, .op .quiet (oBox (.tmp 24)), []⟩,
       ⟨9, some 7, none, .op .quiet (oMv (.tmp 25)), []⟩])
     (.seq
      (.seq
       (.ops [⟨0, some 26, none, .op .quiet (oFieldAddr 1 (.tmp 2)), []⟩,
         ⟨1, some 27, none, .op .reads (oLoad (.tmp 26)), []⟩,
         ⟨2, some 28, none, .op .reads (oLen .slice (.tmp 27)), []⟩,
         ⟨3, some 29, none, .op .quiet (oMv (.val (.int .i64 0))), []⟩])
       (.block 0
        (.loop
         (.seq
          (.ops [⟨0, some 30, none, .op .quiet (oArith .lss (.tmp 29) (.tmp 28)), []⟩])
          (.seq
           (.cond (.tmp 30)
            (.skip)
            (.exit 0))
           (.seq
            (.block 1
             (.seq
              (.ops [⟨0, some 31, none, .op .quiet (oIdxS 2 (.tmp 27) (.tmp 29)), []⟩,
                ⟨1, some 32, none, .op .reads (oLoadN 2 (.tmp 31)), []⟩,
                ⟨2, some 9, none, .op .quiet (oAlloc [(.int .i64 0), (.int .i64 0)]), []⟩,
                ⟨3, none, none, .op .hard (oStore 2 (.tmp 9) (.tmp 32)), []⟩])
              (.seq
               (.drawn [⟨0, some 33, none, .op .quiet (oMv (.tmp 7)), []⟩,
                 ⟨1, some 34, none, .op .quiet (oMv (.tmp 7)), []⟩,
                 ⟨2, some 35, none, .op .quiet (oNilCheck (.tmp 34)), []⟩,
                 ⟨3, some 36, none, .op .quiet (oFieldAddr 1 (.tmp 35)), []⟩,
                 ⟨4, some 37, none, .op .reads (oLoad (.tmp 36)), []⟩,
                 ⟨5, some 38, none, .op .quiet (oFieldAddr 1 (.tmp 9)), []⟩,
                 ⟨6, some 39, none, .op .reads (oLoad (.tmp 38)), []⟩,
                 ⟨7, some 40, none, .op .quiet (oFieldAddr 0 (.tmp 9)), []⟩,
                 ⟨8, some 41, none, .op .reads (oLoad (.tmp 40)), []⟩,
                 ⟨9, some 42, none, .op .quiet (oBuildSlice 1 2 [(.int .i64 0)] [(0, 1), (1, 1)] [(.tmp 39), (.tmp 41)]), []⟩,
                 ⟨10, some 43, none, .op .hard (oAppend 1 8 (.tmp 37) (.tmp 42)), []⟩,
                 ⟨11, some 44, none, .op .quiet (oNilCheck (.tmp 33)), []⟩,
                 ⟨12, some 45, none, .op .quiet (oFieldAddr 1 (.tmp 44)), []⟩,
                 ⟨13, none, none, .op .hard (oStore 1 (.tmp 45) (.tmp 43)), []⟩])
               (.drawn [⟨0, some 46, none, .op .quiet (oMv (.tmp 7)), []⟩,
                 ⟨1, some 47, none, .op .quiet (oNilCheck (.tmp 46)), []⟩,
                 ⟨2, some 48, none, .op .quiet (oFieldAddr 4 (.tmp 47)), []⟩,
                 ⟨3, some 49, none, .op .reads (oLoad (.tmp 48)), []⟩,
                 ⟨4, some 50, none, .op .reads (oLoadN 2 (.tmp 9)), []⟩,
                 ⟨5, none, none, .op .hard (oUpdate (.ints 2) (.tmp 49) (.tmp 50) (.val (.bool true))), []⟩]))))
            (.ops [⟨0, some 51, none, .op .quiet (oArith .add (.tmp 29) (.val (.int .i64 1))), []⟩,
              ⟨1, some 29, none, .op .quiet (oMv (.tmp 51)), []⟩])))))))
      (.seq
       (.seq
        (.ops [⟨0, some 52, none, .op .quiet (oMv (.tmp 7)), []⟩,
          ⟨1, some 53, none, .op .quiet (oNilCheck (.tmp 52)), []⟩,
          ⟨2, some 54, none, .op .quiet (oFieldAddr 3 (.tmp 53)), []⟩,
          ⟨3, some 55, none, .op .reads (oLoad (.tmp 54)), []⟩,
          ⟨4, some 56, none, .op .reads (oLen .slice (.tmp 55)), []⟩,
          ⟨5, some 57, none, .op .quiet (oMv (.val (.int .i64 0))), []⟩])
        (.block 2
         (.loop
          (.seq
           (.ops [⟨0, some 58, none, .op .quiet (oArith .lss (.tmp 57) (.tmp 56)), []⟩])
           (.seq
            (.cond (.tmp 58)
             (.skip)
             (.exit 2))
            (.seq
             (.block 3
              (.seq
               (.ops [⟨0, some 59, none, .op .quiet (oMv (.tmp 57)), []⟩,
                 ⟨1, some 10, none, .op .quiet (oMv (.tmp 59)), []⟩])
               (.seq
                (.ops [⟨0, some 60, none, .op .quiet (oMv (.tmp 7)), []⟩,
                  ⟨1, some 61, none, .op .quiet (oNilCheck (.tmp 60)), []⟩,
                  ⟨2, some 62, none, .op .quiet (oFieldAddr 3 (.tmp 61)), []⟩,
                  ⟨3, some 63, none, .op .reads (oLoad (.tmp 62)), []⟩,
                  ⟨4, some 64, none, .op .quiet (oMv (.tmp 10)), []⟩,
                  ⟨5, some 65, none, .op .quiet (oIdxS 1 (.tmp 63) (.tmp 64)), []⟩,
                  ⟨6, none, none, .op .hard (oStore 1 (.tmp 65) (.val (.int .i64 (-1)))), []⟩])
                (.seq
                 (.ops [⟨0, some 66, none, .op .quiet (oMv (.tmp 1)), []⟩,
                   ⟨1, some 67, none, .op .quiet (oMv (.tmp 10)), []⟩,
                   ⟨2, some 68, none, .op .quiet (oIdxS 1 (.tmp 66) (.tmp 67)), []⟩,
                   ⟨3, some 69, none, .op .reads (oLoad (.tmp 68)), []⟩,
                   ⟨4, some 70, none, .op .reads (oLen .slice (.tmp 69)), []⟩,
                   ⟨5, some 71, none, .op .quiet (oArith .gtr (.tmp 70) (.val (.int .i64 0))), []⟩])
                 (.cond (.tmp 71)
                  (.drawn [⟨0, some 72, none, .op .quiet (oMv (.tmp 7)), []⟩,
                    ⟨1, some 73, none, .op .quiet (oNilCheck (.tmp 72)), []⟩,
                    ⟨2, some 74, none, .op .quiet (oFieldAddr 3 (.tmp 73)), []⟩,
                    ⟨3, some 75, none, .op .reads (oLoad (.tmp 74)), []⟩,
                    ⟨4, some 76, none, .op .quiet (oMv (.tmp 10)), []⟩,
                    ⟨5, some 77, none, .op .quiet (oMv (.tmp 1)), []⟩,
                    ⟨6, some 78, none, .op .quiet (oMv (.tmp 10)), []⟩,
                    ⟨7, some 79, none, .op .quiet (oIdxS 1 (.tmp 77) (.tmp 78)), []⟩,
                    ⟨8, some 80, none, .op .reads (oLoad (.tmp 79)), []⟩,
                    ⟨9, some 81, none, .op .quiet (oIdxS 1 (.tmp 80) (.val (.int .i64 0))), []⟩,
                    ⟨10, some 82, none, .op .reads (oLoad (.tmp 81)), []⟩,
                    ⟨11, some 83, none, .op .quiet (oIdxS 1 (.tmp 75) (.tmp 76)), []⟩,
                    ⟨12, none, none, .op .hard (oStore 1 (.tmp 83) (.tmp 82)), []⟩])
                  (.skip))))))
             (.ops [⟨0, some 84, none, .op .quiet (oArith .add (.tmp 57) (.val (.int .i64 1))), []⟩,
               ⟨1, some 57, none, .op .quiet (oMv (.tmp 84)), []⟩])))))))
       (.seq
        (.ops [⟨0, some 85, none, .op .quiet (oMv (.tmp 7)), []⟩,
          ⟨1, some 4, none, .op .quiet (oMv (.tmp 85)), []⟩])
        (.ret)))))))⟩
/-- (*tangram/tri.plane).join -/
noncomputable def a273 : AF := ⟨[.tmp 10],
 (.seq
   (.ops [⟨0, some 10, none, .op .quiet (oMv (.val (.int .i64 0))), []⟩])
   (.seq
    (.ops [⟨0, some 12, none, .op .quiet (oMv (.tmp 0)), []⟩,
      ⟨1, some 13, none, .op .quiet (oNilCheck (.tmp 12)), []⟩,
      ⟨2, some 14, none, .op .quiet (oFieldAddr 1 (.tmp 13)), []⟩,
      ⟨3, some 15, none, .op .reads (oLoad (.tmp 14)), []⟩,
      ⟨4, some 16, none, .op .reads (oLen .slice (.tmp 15)), []⟩,
      ⟨5, some 11, none, .op .quiet (oMv (.tmp 16)), []⟩])
    (.seq
     (.ops [⟨0, some 17, none, .op .quiet (oMv (.tmp 0)), []⟩,
       ⟨1, some 18, none, .op .quiet (oMv (.tmp 0)), []⟩,
       ⟨2, some 19, none, .op .quiet (oNilCheck (.tmp 18)), []⟩,
       ⟨3, some 20, none, .op .quiet (oFieldAddr 1 (.tmp 19)), []⟩,
       ⟨4, some 21, none, .op .reads (oLoad (.tmp 20)), []⟩,
       ⟨5, some 22, none, .op .quiet (oMv (.tmp 2)), []⟩,
       ⟨6, some 23, none, .op .quiet (oMv (.tmp 1)), []⟩,
       ⟨7, some 24, none, .op .quiet (oBuildSlice 1 2 [(.int .i64 0)] [(0, 1), (1, 1)] [(.tmp 22), (.tmp 23)]), []⟩,
       ⟨8, some 25, none, .op .hard (oAppend 1 8 (.tmp 21) (.tmp 24)), []⟩,
       ⟨9, some 26, none, .op .quiet (oNilCheck (.tmp 17)), []⟩,
       ⟨10, some 27, none, .op .quiet (oFieldAddr 1 (.tmp 26)), []⟩,
       ⟨11, none, none, .op .hard (oStore 1 (.tmp 27) (.tmp 25)), []⟩])
     (.seq
      (.ops [⟨0, some 28, none, .op .quiet (oMv (.tmp 0)), []⟩,
        ⟨1, some 29, none, .op .quiet (oMv (.tmp 0)), []⟩,
        ⟨2, some 30, none, .op .quiet (oNilCheck (.tmp 29)), []⟩,
        ⟨3, some 31, none, .op .quiet (oFieldAddr 2 (.tmp 30)), []⟩,
        ⟨4, some 32, none, .op .reads (oLoad (.tmp 31)), []⟩,
        ⟨5, some 33, none, .op .quiet (oBuildSlice 1 2 [(.int .i64 0)] [(0, 1), (1, 1)] [(.val (.int .i64 (-1))), (.val (.int .i64 (-1)))]), []⟩,
        ⟨6, some 34, none, .op .hard (oAppend 1 8 (.tmp 32) (.tmp 33)), []⟩,
        ⟨7, some 35, none, .op .quiet (oNilCheck (.tmp 28)), []⟩,
        ⟨8, some 36, none, .op .quiet (oFieldAddr 2 (.tmp 35)), []⟩,
        ⟨9, none, none, .op .hard (oStore 1 (.tmp 36) (.tmp 34)), []⟩])
      (.seq
       (.ops [⟨0, some 37, none, .op .quiet (oMv (.tmp 0)), []⟩,
         ⟨1, some 38, none, .op .quiet (oMv (.tmp 11)), []⟩,
         ⟨2, some 39, none, .op .quiet (oMv (.tmp 1)), []⟩,
         ⟨3, some 40, none, .op .quiet (oMv (.tmp 3)), []⟩,
         ⟨4, some 41, none, .callF 318 [(.tmp 37), (.tmp 38), (.tmp 39), (.tmp 40)], []⟩])
       (.seq
        (.ops [⟨0, some 42, none, .op .quiet (oMv (.tmp 0)), []⟩,
          ⟨1, some 43, none, .op .quiet (oMv (.tmp 11)), []⟩,
          ⟨2, some 44, none, .op .quiet (oArith .add (.tmp 43) (.val (.int .i64 1))), []⟩,
          ⟨3, some 45, none, .op .quiet (oMv (.tmp 2)), []⟩,
          ⟨4, some 46, none, .op .quiet (oMv (.tmp 4)), []⟩,
          ⟨5, some 47, none, .callF 318 [(.tmp 42), (.tmp 44), (.tmp 45), (.tmp 46)], []⟩])
        (.seq
         (.drawn [⟨0, some 48, none, .op .quiet (oMv (.tmp 0)), []⟩,
           ⟨1, some 49, none, .op .quiet (oNilCheck (.tmp 48)), []⟩,
           ⟨2, some 50, none, .op .quiet (oFieldAddr 4 (.tmp 49)), []⟩,
           ⟨3, some 51, none, .op .reads (oLoad (.tmp 50)), []⟩,
           ⟨4, some 52, none, .op .quiet (oMv (.tmp 1)), []⟩,
           ⟨5, some 53, none, .op .quiet (oMv (.tmp 2)), []⟩,
           ⟨6, some 54, none, .callF 319 [(.tmp 52), (.tmp 53)], [3]⟩,
           ⟨7, none, none, .op .hard (oUpdate (.ints 2) (.tmp 51) (.tmp 54) (.val (.bool true))), []⟩])
         (.seq
          (.ops [⟨0, some 55, none, .op .quiet (oMv (.tmp 11)), []⟩,
            ⟨1, some 10, none, .op .quiet (oMv (.tmp 55)), []⟩])
          (.ret)))))))))⟩
/-- (*tangram/tri.plane).fill -/
noncomputable def a274 : AF := ⟨[],
 (.block 0
   (.loop
    (.block 1
     (.seq
      (.ops [⟨0, some 6, none, .op .quiet (oMv (.tmp 0)), []⟩,
        ⟨1, some 7, none, .op .quiet (oMv (.tmp 1)), []⟩,
        ⟨2, some 8, none, .callF 320 [(.tmp 6), (.tmp 7)], []⟩,
        ⟨3, some 4, none, .op .quiet (oMv (.tmp 8)), []⟩])
      (.seq
       (.ops [⟨0, some 9, none, .op .quiet (oMv (.tmp 0)), []⟩,
         ⟨1, some 10, none, .op .quiet (oMv (.tmp 4)), []⟩,
         ⟨2, some 11, none, .callF 320 [(.tmp 9), (.tmp 10)], []⟩,
         ⟨3, some 5, none, .op .quiet (oMv (.tmp 11)), []⟩])
       (.seq
        (.seq
         (.ops [⟨0, some 12, none, .op .quiet (oMv (.tmp 0)), []⟩,
           ⟨1, some 13, none, .op .quiet (oMv (.tmp 5)), []⟩,
           ⟨2, some 14, none, .callF 320 [(.tmp 12), (.tmp 13)], []⟩,
           ⟨3, some 15, none, .op .quiet (oMv (.tmp 1)), []⟩,
           ⟨4, some 16, none, .op .quiet (oArith .eql (.tmp 14) (.tmp 15)), []⟩])
         (.cond (.tmp 16)
          (.ret)
          (.skip)))
        (.seq
         (.ops [⟨0, some 17, none, .op .quiet (oMv (.tmp 0)), []⟩,
           ⟨1, some 18, none, .op .quiet (oMv (.tmp 1)), []⟩,
           ⟨2, some 19, none, .op .quiet (oMv (.tmp 5)), []⟩,
           ⟨3, some 20, none, .callF 321 [(.tmp 17), (.tmp 18), (.tmp 19)], []⟩,
           ⟨4, some 21, none, .op .quiet (oNot (.tmp 20)), []⟩])
         (.cond (.tmp 21)
          (.ops [⟨0, some 22, none, .op .quiet (oMv (.tmp 4)), []⟩,
            ⟨1, some 1, none, .op .quiet (oMv (.tmp 22)), []⟩])
          (.skip)))))))))⟩
/-- (*tangram/tri.plane).graph -/
noncomputable def a275 : AF := ⟨[.cellN 2 2, .tmp 3],
 (.seq
   (.ops [⟨0, some 1, none, .op .quiet (oBox (.tmp 0)), []⟩,
     ⟨1, some 2, none, .op .quiet (oAlloc [(.int .i64 0), (.slice none 0 0)]), []⟩,
     ⟨2, some 3, none, .op .quiet (oMv (.val (.slice none 0 0))), []⟩])
   (.seq
    (.ops [⟨0, some 18, none, .op .reads (oLoad (.tmp 1)), []⟩,
      ⟨1, some 19, none, .op .quiet (oNilCheck (.tmp 18)), []⟩,
      ⟨2, some 20, none, .op .quiet (oFieldAddr 1 (.tmp 19)), []⟩,
      ⟨3, some 21, none, .op .reads (oLoad (.tmp 20)), []⟩,
      ⟨4, some 22, none, .op .reads (oLen .slice (.tmp 21)), []⟩,
      ⟨5, some 23, none, .op .quiet (oArith .quo (.tmp 22) (.val (.int .i64 2))), []⟩,
      ⟨6, some 24, none, .op .quiet (oMkSlice 1 8 [(.int .i64 0)] (.val (.int .i64 0)) (.tmp 23)), []⟩,
      ⟨7, some 4, none, .op .quiet (oMv (.tmp 24)), []⟩])
    (.seq
     (.seq
      (.ops [⟨0, some 25, none, .op .reads (oLoad (.tmp 1)), []⟩,
        ⟨1, some 26, none, .op .quiet (oNilCheck (.tmp 25)), []⟩,
        ⟨2, some 27, none, .op .quiet (oFieldAddr 1 (.tmp 26)), []⟩,
        ⟨3, some 28, none, .op .reads (oLoad (.tmp 27)), []⟩,
        ⟨4, some 29, none, .op .reads (oLen .slice (.tmp 28)), []⟩,
        ⟨5, some 30, none, .op .quiet (oArith .quo (.tmp 29) (.val (.int .i64 2))), []⟩,
        ⟨6, some 31, none, .op .quiet (oMv (.val (.int .i64 0))), []⟩])
      (.block 0
       (.loop
        (.seq
         (.ops [⟨0, some 32, none, .op .quiet (oArith .lss (.tmp 31) (.tmp 30)), []⟩])
         (.seq
          (.cond (.tmp 32)
           (.skip)
           (.exit 0))
          (.seq
           (.block 1
            (.seq
             (.ops [⟨0, some 33, none, .op .quiet (oMv (.tmp 31)), []⟩,
               ⟨1, some 5, none, .op .quiet (oMv (.tmp 33)), []⟩])
             (.ops [⟨0, some 34, none, .op .quiet (oMv (.tmp 4)), []⟩,
               ⟨1, some 35, none, .op .quiet (oMv (.tmp 5)), []⟩,
               ⟨2, some 36, none, .op .quiet (oBuildSlice 1 1 [(.int .i64 0)] [(0, 1)] [(.tmp 35)]), []⟩,
               ⟨3, some 37, none, .op .hard (oAppend 1 8 (.tmp 34) (.tmp 36)), []⟩,
               ⟨4, some 4, none, .op .quiet (oMv (.tmp 37)), []⟩])))
           (.ops [⟨0, some 38, none, .op .quiet (oArith .add (.tmp 31) (.val (.int .i64 1))), []⟩,
             ⟨1, some 31, none, .op .quiet (oMv (.tmp 38)), []⟩])))))))
     (.seq
      (.ops [⟨0, some 39, none, .op .quiet (oClos 322 [] [(.tmp 1)]), []⟩,
        ⟨1, some 6, none, .op .quiet (oAlloc [.nilFunc]), []⟩,
        ⟨2, none, none, .op .hard (oStore 1 (.tmp 6) (.tmp 39)), []⟩])
      (.seq
       (.ops [⟨0, some 40, none, .op .quiet (oMv (.tmp 4)), []⟩,
         ⟨1, some 41, none, .op .quiet (oClos 324 [] [(.tmp 6)]), []⟩,
         ⟨2, some 42, none, .callF 323 [(.tmp 40), (.tmp 41)], []⟩])
       (.seq
        (.ops [⟨0, some 43, none, .op .reads (oLoad (.tmp 1)), []⟩,
          ⟨1, some 44, none, .op .quiet (oNilCheck (.tmp 43)), []⟩,
          ⟨2, some 45, none, .op .quiet (oFieldAddr 0 (.tmp 44)), []⟩,
          ⟨3, some 46, none, .op .reads (oLoad (.tmp 45)), []⟩,
          ⟨4, some 47, none, .op .quiet (oBuild [(.int .i64 0), (.slice none 0 0)] [(0, 1)] [(.tmp 46)]), []⟩,
          ⟨5, some 7, none, .op .quiet (oAlloc [(.int .i64 0), (.slice none 0 0)]), []⟩,
          ⟨6, none, none, .op .hard (oStore 2 (.tmp 7) (.tmp 47)), []⟩])
        (.seq
         (.ops [⟨0, some 48, none, .op .reads (oLoad (.tmp 1)), []⟩,
           ⟨1, some 49, none, .op .quiet (oNilCheck (.tmp 48)), []⟩,
           ⟨2, some 50, none, .op .quiet (oFieldAddr 1 (.tmp 49)), []⟩,
           ⟨3, some 51, none, .op .reads (oLoad (.tmp 50)), []⟩,
           ⟨4, some 52, none, .op .reads (oLen .slice (.tmp 51)), []⟩,
           ⟨5, some 53, none, .op .quiet (oMkSlice 1 8 [(.int .i64 0)] (.tmp 52) (.tmp 52)), []⟩,
           ⟨6, some 8, none, .op .quiet (oMv (.tmp 53)), []⟩])
         (.seq
          (.seq
           (.ops [⟨0, some 54, none, .op .quiet (oMv (.tmp 4)), []⟩,
             ⟨1, some 55, none, .op .reads (oLen .slice (.tmp 54)), []⟩,
             ⟨2, some 56, none, .op .quiet (oMv (.val (.int .i64 0))), []⟩])
           (.block 2
            (.loop
             (.seq
              (.ops [⟨0, some 57, none, .op .quiet (oArith .lss (.tmp 56) (.tmp 55)), []⟩])
              (.seq
               (.cond (.tmp 57)
                (.skip)
                (.exit 2))
               (.seq
                (.block 3
                 (.seq
                  (.ops [⟨0, some 58, none, .op .quiet (oMv (.tmp 56)), []⟩,
                    ⟨1, some 59, none, .op .quiet (oIdxS 1 (.tmp 54) (.tmp 56)), []⟩,
                    ⟨2, some 60, none, .op .reads (oLoad (.tmp 59)), []⟩,
                    ⟨3, some 9, none, .op .quiet (oMv (.tmp 58)), []⟩,
                    ⟨4, some 10, none, .op .quiet (oMv (.tmp 60)), []⟩])
                  (.seq
                   (.ops [⟨0, some 61, none, .op .reads (oLoad (.tmp 6)), []⟩,
                     ⟨1, some 62, none, .op .quiet (oMv (.tmp 10)), []⟩,
                     ⟨2, some 63, none, .call (.tmp 61) [(.tmp 62)], []⟩,
                     ⟨3, some 11, none, .op .quiet (oAlloc [(.int .i64 0), (.int .i64 0)]), []⟩,
                     ⟨4, none, none, .op .hard (oStore 2 (.tmp 11) (.tmp 63)), []⟩])
                   (.seq
                    (.ops [⟨0, some 64, none, .op .quiet (oFieldAddr 1 (.tmp 7)), []⟩,
                      ⟨1, some 65, none, .op .reads (oLoad (.tmp 64)), []⟩,
                      ⟨2, some 66, none, .op .reads (oLoadN 2 (.tmp 11)), []⟩,
                      ⟨3, some 67, none, .op .quiet (oBuildSlice 2 1 [(.int .i64 0), (.int .i64 0)] [(0, 2)] [(.tmp 66)]), []⟩,
                      ⟨4, some 68, none, .op .hard (oAppend 2 16 (.tmp 65) (.tmp 67)), []⟩,
                      ⟨5, some 69, none, .op .quiet (oFieldAddr 1 (.tmp 7)), []⟩,
                      ⟨6, none, none, .op .hard (oStore 1 (.tmp 69) (.tmp 68)), []⟩])
                    (.seq
                     (.drawn [⟨0, some 70, none, .op .reads (oLoad (.tmp 1)), []⟩,
                       ⟨1, some 71, none, .op .quiet (oNilCheck (.tmp 70)), []⟩,
                       ⟨2, some 72, none, .op .quiet (oFieldAddr 4 (.tmp 71)), []⟩,
                       ⟨3, some 73, none, .op .reads (oLoad (.tmp 72)), []⟩,
                       ⟨4, some 74, none, .op .reads (oLoadN 2 (.tmp 11)), []⟩,
                       ⟨5, none, none, .op .hard (oDelete (.ints 2) (.tmp 73) (.tmp 74)), []⟩])
                     (.seq
                      (.ops [⟨0, some 75, none, .op .quiet (oMv (.tmp 10)), []⟩,
                        ⟨1, some 76, none, .op .quiet (oArith .mul (.val (.int .i64 2)) (.tmp 75)), []⟩,
                        ⟨2, some 77, none, .op .quiet (oMv (.tmp 10)), []⟩,
                        ⟨3, some 78, none, .op .quiet (oArith .mul (.val (.int .i64 2)) (.tmp 77)), []⟩,
                        ⟨4, some 79, none, .op .quiet (oArith .add (.tmp 78) (.val (.int .i64 1))), []⟩,
                        ⟨5, some 80, none, .op .quiet (oBuild [(.int .i64 0), (.int .i64 0)] [(0, 1), (1, 1)] [(.tmp 76), (.tmp 79)]), []⟩,
                        ⟨6, some 81, none, .op .quiet (oMv (.val (.int .i64 0))), []⟩])
                      (.block 4
                       (.loop
                        (.seq
                         (.ops [⟨0, some 82, none, .op .quiet (oArith .lss (.tmp 81) (.val (.int .i64 2))), []⟩])
                         (.seq
                          (.cond (.tmp 82)
                           (.skip)
                           (.exit 4))
                          (.seq
                           (.block 5
                            (.seq
                             (.ops [⟨0, some 83, none, .op .quiet (oIndexA false 1 2 (.tmp 80) (.tmp 81)), []⟩,
                               ⟨1, some 13, none, .op .quiet (oMv (.tmp 83)), []⟩])
                             (.seq
                              (.ops [⟨0, some 84, none, .op .quiet (oMv (.tmp 8)), []⟩,
                                ⟨1, some 85, none, .op .quiet (oMv (.tmp 13)), []⟩,
                                ⟨2, some 86, none, .op .quiet (oMv (.tmp 9)), []⟩,
                                ⟨3, some 87, none, .op .quiet (oArith .mul (.val (.int .i64 2)) (.tmp 86)), []⟩,
                                ⟨4, some 88, none, .op .quiet (oIdxS 1 (.tmp 84) (.tmp 85)), []⟩,
                                ⟨5, none, none, .op .hard (oStore 1 (.tmp 88) (.tmp 87)), []⟩])
                              (.seq
                               (.drawn [⟨0, some 89, none, .op .reads (oLoad (.tmp 1)), []⟩,
                                 ⟨1, some 90, none, .op .quiet (oNilCheck (.tmp 89)), []⟩,
                                 ⟨2, some 91, none, .op .quiet (oFieldAddr 1 (.tmp 90)), []⟩,
                                 ⟨3, some 92, none, .op .reads (oLoad (.tmp 91)), []⟩,
                                 ⟨4, some 93, none, .op .quiet (oMv (.tmp 13)), []⟩,
                                 ⟨5, some 94, none, .op .quiet (oIdxS 1 (.tmp 92) (.tmp 93)), []⟩,
                                 ⟨6, some 95, none, .op .reads (oLoad (.tmp 94)), []⟩,
                                 ⟨7, some 96, none, .op .quiet (oFieldAddr 0 (.tmp 11)), []⟩,
                                 ⟨8, some 97, none, .op .reads (oLoad (.tmp 96)), []⟩,
                                 ⟨9, some 98, none, .op .quiet (oArith .eql (.tmp 95) (.tmp 97)), []⟩])
                               (.cond (.tmp 98)
                                (.ops [⟨0, some 99, none, .op .quiet (oMv (.tmp 8)), []⟩,
                                  ⟨1, some 100, none, .op .quiet (oMv (.tmp 13)), []⟩,
                                  ⟨2, some 101, none, .op .quiet (oIdxS 1 (.tmp 99) (.tmp 100)), []⟩,
                                  ⟨3, some 102, none, .op .reads (oLoad (.tmp 101)), []⟩,
                                  ⟨4, some 103, none, .op .quiet (oArith .add (.tmp 102) (.val (.int .i64 1))), []⟩,
                                  ⟨5, some 104, none, .op .quiet (oIdxS 1 (.tmp 99) (.tmp 100)), []⟩,
                                  ⟨6, none, none, .op .hard (oStore 1 (.tmp 104) (.tmp 103)), []⟩])
                                (.skip))))))
                           (.ops [⟨0, some 105, none, .op .quiet (oArith .add (.tmp 81) (.val (.int .i64 1))), []⟩,
                             ⟨1, some 81, none, .op .quiet (oMv (.tmp 105)), []⟩]))))))))))))
                (.ops [⟨0, some 106, none, .op .quiet (oArith .add (.tmp 56) (.val (.int .i64 1))), []⟩,
                  ⟨1, some 56, none, .op .quiet (oMv (.tmp 106)), []⟩])))))))
          (.seq
           (.ops [⟨0, some 107, none, .op .reads (oLoad (.tmp 1)), []⟩,
             ⟨1, some 108, none, .op .quiet (oNilCheck (.tmp 107)), []⟩,
             ⟨2, some 109, none, .op .quiet (oFieldAddr 0 (.tmp 108)), []⟩,
             ⟨3, some 110, none, .op .reads (oLoad (.tmp 109)), []⟩,
             ⟨4, some 111, none, .op .quiet (oMkSlice 1 24 [(.slice none 0 0)] (.tmp 110) (.tmp 110)), []⟩,
             ⟨5, some 14, none, .op .quiet (oMv (.tmp 111)), []⟩])
           (.seq
            (.seq
             (.ops [⟨0, some 112, none, .op .reads (oLoad (.tmp 1)), []⟩,
               ⟨1, some 113, none, .op .quiet (oNilCheck (.tmp 112)), []⟩,
               ⟨2, some 114, none, .op .quiet (oFieldAddr 3 (.tmp 113)), []⟩,
               ⟨3, some 115, none, .op .reads (oLoad (.tmp 114)), []⟩,
               ⟨4, some 116, none, .op .reads (oLen .slice (.tmp 115)), []⟩,
               ⟨5, some 117, none, .op .quiet (oMv (.val (.int .i64 0))), []⟩])
             (.block 6
              (.loop
               (.seq
                (.ops [⟨0, some 118, none, .op .quiet (oArith .lss (.tmp 117) (.tmp 116)), []⟩])
                (.seq
                 (.cond (.tmp 118)
                  (.skip)
                  (.exit 6))
                 (.seq
                  (.block 7
                   (.seq
                    (.ops [⟨0, some 119, none, .op .quiet (oMv (.tmp 117)), []⟩,
                      ⟨1, some 120, none, .op .quiet (oIdxS 1 (.tmp 115) (.tmp 117)), []⟩,
                      ⟨2, some 121, none, .op .reads (oLoad (.tmp 120)), []⟩,
                      ⟨3, some 15, none, .op .quiet (oMv (.tmp 119)), []⟩,
                      ⟨4, some 16, none, .op .quiet (oMv (.tmp 121)), []⟩])
                    (.seq
                     (.ops [⟨0, some 122, none, .op .quiet (oMv (.tmp 16)), []⟩,
                       ⟨1, some 17, none, .op .quiet (oMv (.tmp 122)), []⟩])
                     (.block 8
                      (.loop
                       (.seq
                        (.seq
                         (.ops [⟨0, some 123, none, .op .quiet (oMv (.tmp 17)), []⟩,
                           ⟨1, some 124, none, .op .quiet (oArith .geq (.tmp 123) (.val (.int .i64 0))), []⟩])
                         (.cond (.tmp 124)
                          (.skip)
                          (.exit 8)))
                        (.block 9
                         (.seq
                          (.drawn [⟨0, some 125, none, .op .quiet (oMv (.tmp 14)), []⟩,
                            ⟨1, some 126, none, .op .quiet (oMv (.tmp 15)), []⟩,
                            ⟨2, some 127, none, .op .quiet (oMv (.tmp 14)), []⟩,
                            ⟨3, some 128, none, .op .quiet (oMv (.tmp 15)), []⟩,
                            ⟨4, some 129, none, .op .quiet (oIdxS 1 (.tmp 127) (.tmp 128)), []⟩,
                            ⟨5, some 130, none, .op .reads (oLoad (.tmp 129)), []⟩,
                            ⟨6, some 131, none, .op .quiet (oMv (.tmp 8)), []⟩,
                            ⟨7, some 132, none, .op .quiet (oMv (.tmp 17)), []⟩,
                            ⟨8, some 133, none, .op .quiet (oIdxS 1 (.tmp 131) (.tmp 132)), []⟩,
                            ⟨9, some 134, none, .op .reads (oLoad (.tmp 133)), []⟩,
                            ⟨10, some 135, none, .op .quiet (oBuildSlice 1 1 [(.int .i64 0)] [(0, 1)] [(.tmp 134)]), []⟩,
                            ⟨11, some 136, none, .op .hard (oAppend 1 8 (.tmp 130) (.tmp 135)), []⟩,
                            ⟨12, some 137, none, .op .quiet (oIdxS 1 (.tmp 125) (.tmp 126)), []⟩,
                            ⟨13, none, none, .op .hard (oStore 1 (.tmp 137) (.tmp 136)), []⟩])
                          (.seq
                           (.ops [⟨0, some 138, none, .op .reads (oLoad (.tmp 1)), []⟩,
                             ⟨1, some 139, none, .op .quiet (oNilCheck (.tmp 138)), []⟩,
                             ⟨2, some 140, none, .op .quiet (oFieldAddr 2 (.tmp 139)), []⟩,
                             ⟨3, some 141, none, .op .reads (oLoad (.tmp 140)), []⟩,
                             ⟨4, some 142, none, .op .quiet (oMv (.tmp 17)), []⟩,
                             ⟨5, some 143, none, .op .quiet (oIdxS 1 (.tmp 141) (.tmp 142)), []⟩,
                             ⟨6, some 144, none, .op .reads (oLoad (.tmp 143)), []⟩,
                             ⟨7, some 17, none, .op .quiet (oMv (.tmp 144)), []⟩])
                           (.seq
                            (.ops [⟨0, some 145, none, .op .quiet (oMv (.tmp 17)), []⟩,
                              ⟨1, some 146, none, .op .quiet (oMv (.tmp 16)), []⟩,
                              ⟨2, some 147, none, .op .quiet (oArith .eql (.tmp 145) (.tmp 146)), []⟩])
                            (.cond (.tmp 147)
                             (.exit 8)
                             (.skip))))))))))))
                  (.ops [⟨0, some 148, none, .op .quiet (oArith .add (.tmp 117) (.val (.int .i64 1))), []⟩,
                    ⟨1, some 117, none, .op .quiet (oMv (.tmp 148)), []⟩])))))))
            (.seq
             (.ops [⟨0, some 149, none, .op .reads (oLoadN 2 (.tmp 7)), []⟩,
               ⟨1, some 150, none, .op .quiet (oMv (.tmp 14)), []⟩,
               ⟨2, none, none, .op .hard (oStore 2 (.tmp 2) (.tmp 149)), []⟩,
               ⟨3, some 3, none, .op .quiet (oMv (.tmp 150)), []⟩])
             (.ret))))))))))))⟩
/-- tangram/order.look -/
noncomputable def a276 : AF := ⟨[.tmp 6, .tmp 7],
 (.seq
   (.ops [⟨0, some 3, none, .op .quiet (oBox (.tmp 0)), []⟩,
     ⟨1, some 6, none, .op .quiet (oMv (.val (.pointer none))), []⟩,
     ⟨2, some 7, none, .op .quiet (oMv (.val (.int .i64 0))), []⟩])
   (.seq
    (.seq
     (.ops [⟨0, some 17, none, .op .reads (oLoadN 2 (.tmp 3)), []⟩,
       ⟨1, some 18, none, .op .quiet (oMv (.tmp 1)), []⟩,
       ⟨2, some 19, none, .callF 53 [(.tmp 17), (.tmp 18)], []⟩,
       ⟨3, some 16, none, .op .quiet (oMv (.tmp 19)), []⟩,
       ⟨4, some 20, none, .op .quiet (oExtract 0 (.tmp 16)), []⟩,
       ⟨5, some 21, none, .op .quiet (oExtract 1 (.tmp 16)), []⟩,
       ⟨6, some 8, none, .op .quiet (oMv (.tmp 20)), []⟩,
       ⟨7, some 9, none, .op .quiet (oMv (.tmp 21)), []⟩])
     (.seq
      (.ops [⟨0, some 22, none, .op .quiet (oMv (.tmp 9)), []⟩,
        ⟨1, some 23, none, .op .quiet (oArith .neq (.tmp 22) (.val (.int .i64 0))), []⟩])
      (.cond (.tmp 23)
       (.seq
        (.ops [⟨0, some 24, none, .op .quiet (oMv (.tmp 9)), []⟩,
          ⟨1, some 6, none, .op .quiet (oMv (.val (.pointer none))), []⟩,
          ⟨2, some 7, none, .op .quiet (oMv (.tmp 24)), []⟩])
        (.ret))
       (.skip))))
    (.seq
     (.block 0
      (.seq
       (.ops [⟨0, some 26, none, .op .reads (oLoadN 2 (.tmp 3)), []⟩,
         ⟨1, some 27, none, .op .quiet (oMv (.tmp 1)), []⟩,
         ⟨2, some 28, none, .callF 55 [(.tmp 26), (.tmp 27)], []⟩,
         ⟨3, some 29, none, .op .quiet (oNot (.tmp 28)), []⟩,
         ⟨4, some 25, none, .op .quiet (oMv (.tmp 29)), []⟩])
       (.cond (.tmp 25)
        (.seq
         (.ops [⟨0, some 6, none, .op .quiet (oMv (.val (.pointer none))), []⟩,
           ⟨1, some 7, none, .op .quiet (oMv (.val (.int .i64 120))), []⟩])
         (.ret))
        (.seq
         (.ops [⟨0, some 31, none, .op .quiet (oFieldAddr 0 (.tmp 3)), []⟩,
           ⟨1, some 32, none, .op .reads (oLoad (.tmp 31)), []⟩,
           ⟨2, some 33, none, .op .quiet (oArith .lss (.tmp 32) (.val (.int .i64 3))), []⟩,
           ⟨3, some 30, none, .op .quiet (oMv (.tmp 33)), []⟩])
         (.cond (.tmp 30)
          (.seq
           (.ops [⟨0, some 6, none, .op .quiet (oMv (.val (.pointer none))), []⟩,
             ⟨1, some 7, none, .op .quiet (oMv (.val (.int .i64 230))), []⟩])
           (.ret))
          (.seq
           (.ops [⟨0, some 35, none, .op .quiet (oMv (.tmp 2)), []⟩,
             ⟨1, some 36, none, .op .quiet (oArith .lss (.tmp 35) (.val (.int .i64 0))), []⟩,
             ⟨2, some 37, none, .op .quiet (oMv (.tmp 36)), []⟩,
             ⟨3, some 38, some (37, false), .op .quiet (oMv (.tmp 2)), []⟩,
             ⟨4, some 39, some (37, false), .op .quiet (oFieldAddr 1 (.tmp 3)), []⟩,
             ⟨5, some 40, some (37, false), .op .reads (oLoad (.tmp 39)), []⟩,
             ⟨6, some 41, some (37, false), .op .reads (oLen .slice (.tmp 40)), []⟩,
             ⟨7, some 42, some (37, false), .op .quiet (oArith .mul (.val (.int .i64 2)) (.tmp 41)), []⟩,
             ⟨8, some 43, some (37, false), .op .quiet (oArith .geq (.tmp 38) (.tmp 42)), []⟩,
             ⟨9, some 44, none, .op .quiet (oPick (.tmp 37) (.val (.bool true)) (.tmp 43)), []⟩,
             ⟨10, some 34, none, .op .quiet (oMv (.tmp 44)), []⟩])
           (.cond (.tmp 34)
            (.seq
             (.ops [⟨0, some 6, none, .op .quiet (oMv (.val (.pointer none))), []⟩,
               ⟨1, some 7, none, .op .quiet (oMv (.val (.int .i64 241))), []⟩])
             (.ret))
            (.skip))))))))
     (.seq
      (.seq
       (.ops [⟨0, some 46, none, .op .reads (oLoadN 2 (.tmp 3)), []⟩,
         ⟨1, some 47, none, .op .quiet (oMv (.tmp 1)), []⟩,
         ⟨2, some 48, none, .callF 325 [(.tmp 46), (.tmp 47)], []⟩,
         ⟨3, some 45, none, .op .quiet (oMv (.tmp 48)), []⟩,
         ⟨4, some 49, none, .op .quiet (oExtract 0 (.tmp 45)), []⟩,
         ⟨5, some 50, none, .op .quiet (oExtract 1 (.tmp 45)), []⟩,
         ⟨6, some 10, none, .op .quiet (oMv (.tmp 49)), []⟩,
         ⟨7, some 11, none, .op .quiet (oMv (.tmp 50)), []⟩])
       (.seq
        (.ops [⟨0, some 51, none, .op .quiet (oMv (.tmp 11)), []⟩,
          ⟨1, some 52, none, .op .quiet (oArith .neq (.tmp 51) (.val (.int .i64 0))), []⟩,
          ⟨2, some 53, none, .op .quiet (oMv (.tmp 52)), []⟩,
          ⟨3, some 54, some (53, false), .op .quiet (oMv (.tmp 10)), []⟩,
          ⟨4, some 55, some (53, false), .op .quiet (oNot (.tmp 54)), []⟩,
          ⟨5, some 56, none, .op .quiet (oPick (.tmp 53) (.val (.bool true)) (.tmp 55)), []⟩])
        (.cond (.tmp 56)
         (.seq
          (.ops [⟨0, some 6, none, .op .quiet (oMv (.val (.pointer none))), []⟩,
            ⟨1, some 7, none, .op .quiet (oMv (.val (.int .i64 240))), []⟩])
          (.ret))
         (.skip))))
      (.seq
       (.ops [⟨0, some 58, none, .op .reads (oLoadN 2 (.tmp 3)), []⟩,
         ⟨1, some 59, none, .op .quiet (oMv (.tmp 1)), []⟩,
         ⟨2, some 60, none, .callF 255 [(.tmp 58), (.tmp 59)], []⟩,
         ⟨3, some 57, none, .op .quiet (oMv (.tmp 60)), []⟩,
         ⟨4, some 61, none, .op .quiet (oExtract 0 (.tmp 57)), []⟩,
         ⟨5, some 62, none, .op .quiet (oExtract 1 (.tmp 57)), []⟩,
         ⟨6, some 12, none, .op .quiet (oMv (.tmp 61)), []⟩,
         ⟨7, some 13, none, .op .quiet (oMv (.tmp 62)), []⟩])
       (.seq
        (.seq
         (.ops [⟨0, some 63, none, .op .quiet (oMv (.tmp 13)), []⟩,
           ⟨1, some 64, none, .op .quiet (oArith .neq (.tmp 63) (.val (.int .i64 0))), []⟩])
         (.cond (.tmp 64)
          (.seq
           (.ops [⟨0, some 65, none, .op .quiet (oMv (.tmp 13)), []⟩,
             ⟨1, some 6, none, .op .quiet (oMv (.val (.pointer none))), []⟩,
             ⟨2, some 7, none, .op .quiet (oMv (.tmp 65)), []⟩])
           (.ret))
          (.skip)))
        (.seq
         (.ops [⟨0, some 67, none, .op .reads (oLoadN 2 (.tmp 3)), []⟩,
           ⟨1, some 68, none, .op .quiet (oMv (.tmp 1)), []⟩,
           ⟨2, some 69, none, .callF 131 [(.tmp 67), (.tmp 68)], []⟩,
           ⟨3, some 66, none, .op .quiet (oMv (.tmp 69)), []⟩,
           ⟨4, some 70, none, .op .quiet (oExtract 0 (.tmp 66)), []⟩,
           ⟨5, some 71, none, .op .quiet (oExtract 1 (.tmp 66)), []⟩,
           ⟨6, some 14, none, .op .quiet (oMv (.tmp 70)), []⟩,
           ⟨7, some 13, none, .op .quiet (oMv (.tmp 71)), []⟩])
         (.seq
          (.seq
           (.ops [⟨0, some 72, none, .op .quiet (oMv (.tmp 13)), []⟩,
             ⟨1, some 73, none, .op .quiet (oArith .neq (.tmp 72) (.val (.int .i64 0))), []⟩])
           (.cond (.tmp 73)
            (.seq
             (.ops [⟨0, some 74, none, .op .quiet (oMv (.tmp 13)), []⟩,
               ⟨1, some 6, none, .op .quiet (oMv (.val (.pointer none))), []⟩,
               ⟨2, some 7, none, .op .quiet (oMv (.tmp 74)), []⟩])
             (.ret))
            (.skip)))
          (.seq
           (.ops [⟨0, some 75, none, .op .reads (oLoadN 2 (.tmp 3)), []⟩,
             ⟨1, some 76, none, .op .quiet (oMv (.tmp 14)), []⟩,
             ⟨2, some 77, none, .op .quiet (oBuild [(.int .i64 0), (.slice none 0 0), (.slice none 0 0), (.int .i64 0), (.int .i64 0), (.int .i64 0)] [(0, 2), (2, 1)] [(.tmp 75), (.tmp 76)]), []⟩,
             ⟨3, some 78, none, .op .quiet (oBox (.tmp 77)), []⟩,
             ⟨4, some 15, none, .op .quiet (oMv (.tmp 78)), []⟩])
           (.seq
            (.ops [⟨0, some 80, none, .op .quiet (oMv (.tmp 15)), []⟩,
              ⟨1, some 81, none, .op .quiet (oMv (.tmp 15)), []⟩,
              ⟨2, some 82, none, .op .reads (oLoadN 2 (.tmp 3)), []⟩,
              ⟨3, some 83, none, .op .quiet (oMv (.tmp 2)), []⟩,
              ⟨4, some 84, none, .callF 326 [(.tmp 82), (.tmp 83)], []⟩,
              ⟨5, some 79, none, .op .quiet (oMv (.tmp 84)), []⟩,
              ⟨6, some 85, none, .op .quiet (oExtract 0 (.tmp 79)), []⟩,
              ⟨7, some 86, none, .op .quiet (oExtract 1 (.tmp 79)), []⟩,
              ⟨8, some 87, none, .op .quiet (oNilCheck (.tmp 80)), []⟩,
              ⟨9, some 88, none, .op .quiet (oFieldAddr 3 (.tmp 87)), []⟩,
              ⟨10, none, none, .op .hard (oStore 1 (.tmp 88) (.tmp 85)), []⟩,
              ⟨11, some 89, none, .op .quiet (oNilCheck (.tmp 81)), []⟩,
              ⟨12, some 90, none, .op .quiet (oFieldAddr 4 (.tmp 89)), []⟩,
              ⟨13, none, none, .op .hard (oStore 1 (.tmp 90) (.tmp 86)), []⟩])
            (.seq
             (.drawn [⟨0, some 92, none, .op .quiet (oMv (.tmp 15)), []⟩,
               ⟨1, some 93, none, .op .reads (oLoadN 2 (.tmp 3)), []⟩,
               ⟨2, some 94, none, .op .quiet (oMv (.tmp 12)), []⟩,
               ⟨3, some 95, none, .op .quiet (oMv (.tmp 2)), []⟩,
               ⟨4, some 96, none, .op .quiet (oArith .xor (.tmp 95) (.val (.int .i64 1))), []⟩,
               ⟨5, some 97, none, .op .quiet (oIdxS 1 (.tmp 94) (.tmp 96)), []⟩,
               ⟨6, some 98, none, .op .reads (oLoad (.tmp 97)), []⟩,
               ⟨7, some 99, none, .callF 326 [(.tmp 93), (.tmp 98)], []⟩,
               ⟨8, some 91, none, .op .quiet (oMv (.tmp 99)), []⟩,
               ⟨9, some 100, none, .op .quiet (oExtract 0 (.tmp 91)), []⟩,
               ⟨10, some 101, none, .op .quiet (oExtract 1 (.tmp 91)), []⟩,
               ⟨11, some 102, none, .op .quiet (oNilCheck (.tmp 92)), []⟩,
               ⟨12, some 103, none, .op .quiet (oFieldAddr 5 (.tmp 102)), []⟩,
               ⟨13, none, none, .op .hard (oStore 1 (.tmp 103) (.tmp 101)), []⟩])
             (.seq
              (.ops [⟨0, some 104, none, .op .quiet (oMv (.tmp 15)), []⟩,
                ⟨1, some 6, none, .op .quiet (oMv (.tmp 104)), []⟩,
                ⟨2, some 7, none, .op .quiet (oMv (.val (.int .i64 0))), []⟩])
              (.ret)))))))))))))⟩
/-- (*tangram/order.peel).enter -/
noncomputable def a277 : AF := ⟨[],
 (.seq
   (.ops [⟨0, some 10, none, .op .quiet (oMv (.tmp 0)), []⟩,
     ⟨1, some 11, none, .op .quiet (oNilCheck (.tmp 10)), []⟩,
     ⟨2, some 12, none, .op .quiet (oFieldAddr 1 (.tmp 11)), []⟩,
     ⟨3, some 13, none, .op .reads (oLoad (.tmp 12)), []⟩,
     ⟨4, some 14, none, .op .quiet (oMv (.tmp 1)), []⟩,
     ⟨5, some 15, none, .op .quiet (oIdxS 1 (.tmp 13) (.tmp 14)), []⟩,
     ⟨6, none, none, .op .hard (oStore 1 (.tmp 15) (.val (.int .i64 1))), []⟩])
   (.seq
    (.drawn [⟨0, some 16, none, .op .quiet (oMv (.tmp 0)), []⟩,
      ⟨1, some 17, none, .op .quiet (oNilCheck (.tmp 16)), []⟩,
      ⟨2, some 18, none, .op .quiet (oFieldAddr 3 (.tmp 17)), []⟩,
      ⟨3, some 19, none, .op .reads (oLoad (.tmp 18)), []⟩,
      ⟨4, some 20, none, .op .quiet (oMv (.tmp 1)), []⟩,
      ⟨5, some 21, none, .op .quiet (oMv (.tmp 0)), []⟩,
      ⟨6, some 22, none, .op .quiet (oNilCheck (.tmp 21)), []⟩,
      ⟨7, some 23, none, .op .quiet (oFieldAddr 2 (.tmp 22)), []⟩,
      ⟨8, some 24, none, .op .reads (oLoad (.tmp 23)), []⟩,
      ⟨9, some 25, none, .op .quiet (oMv (.tmp 1)), []⟩,
      ⟨10, some 26, none, .op .quiet (oMv (.tmp 2)), []⟩,
      ⟨11, some 27, none, .op .quiet (oMv (.tmp 3)), []⟩,
      ⟨12, some 28, none, .op .quiet (oIdxS 1 (.tmp 19) (.tmp 20)), []⟩,
      ⟨13, none, none, .op .hard (oStore 1 (.tmp 28) (.tmp 26)), []⟩,
      ⟨14, some 29, none, .op .quiet (oIdxS 1 (.tmp 24) (.tmp 25)), []⟩,
      ⟨15, none, none, .op .hard (oStore 1 (.tmp 29) (.tmp 27)), []⟩])
    (.seq
     (.seq
      (.ops [⟨0, some 30, none, .op .quiet (oMv (.tmp 2)), []⟩,
        ⟨1, some 31, none, .op .quiet (oArith .geq (.tmp 30) (.val (.int .i64 0))), []⟩])
      (.cond (.tmp 31)
       (.ops [⟨0, some 32, none, .op .quiet (oMv (.tmp 0)), []⟩,
         ⟨1, some 33, none, .op .quiet (oNilCheck (.tmp 32)), []⟩,
         ⟨2, some 34, none, .op .quiet (oFieldAddr 2 (.tmp 33)), []⟩,
         ⟨3, some 35, none, .op .reads (oLoad (.tmp 34)), []⟩,
         ⟨4, some 36, none, .op .quiet (oMv (.tmp 2)), []⟩,
         ⟨5, some 37, none, .op .quiet (oMv (.tmp 1)), []⟩,
         ⟨6, some 38, none, .op .quiet (oIdxS 1 (.tmp 35) (.tmp 36)), []⟩,
         ⟨7, none, none, .op .hard (oStore 1 (.tmp 38) (.tmp 37)), []⟩])
       (.skip)))
     (.seq
      (.seq
       (.ops [⟨0, some 39, none, .op .quiet (oMv (.tmp 3)), []⟩,
         ⟨1, some 40, none, .op .quiet (oArith .geq (.tmp 39) (.val (.int .i64 0))), []⟩])
       (.cond (.tmp 40)
        (.ops [⟨0, some 41, none, .op .quiet (oMv (.tmp 0)), []⟩,
          ⟨1, some 42, none, .op .quiet (oNilCheck (.tmp 41)), []⟩,
          ⟨2, some 43, none, .op .quiet (oFieldAddr 3 (.tmp 42)), []⟩,
          ⟨3, some 44, none, .op .reads (oLoad (.tmp 43)), []⟩,
          ⟨4, some 45, none, .op .quiet (oMv (.tmp 3)), []⟩,
          ⟨5, some 46, none, .op .quiet (oMv (.tmp 1)), []⟩,
          ⟨6, some 47, none, .op .quiet (oIdxS 1 (.tmp 44) (.tmp 45)), []⟩,
          ⟨7, none, none, .op .hard (oStore 1 (.tmp 47) (.tmp 46)), []⟩])
        (.skip)))
      (.seq
       (.ops [⟨0, some 48, none, .op .quiet (oMv (.tmp 0)), []⟩,
         ⟨1, some 49, none, .op .quiet (oNilCheck (.tmp 48)), []⟩,
         ⟨2, some 50, none, .op .quiet (oFieldAddr 0 (.tmp 49)), []⟩,
         ⟨3, some 51, none, .op .reads (oLoad (.tmp 50)), []⟩,
         ⟨4, some 52, none, .op .quiet (oNilCheck (.tmp 51)), []⟩,
         ⟨5, some 53, none, .op .quiet (oFieldAddr 2 (.tmp 52)), []⟩,
         ⟨6, some 54, none, .op .reads (oLoad (.tmp 53)), []⟩,
         ⟨7, some 55, none, .op .quiet (oMv (.tmp 1)), []⟩,
         ⟨8, some 56, none, .op .quiet (oIdxS 1 (.tmp 54) (.tmp 55)), []⟩,
         ⟨9, some 57, none, .op .reads (oLoad (.tmp 56)), []⟩,
         ⟨10, some 58, none, .op .reads (oLen .slice (.tmp 57)), []⟩,
         ⟨11, some 59, none, .op .quiet (oMv (.val (.int .i64 0))), []⟩])
       (.block 0
        (.loop
         (.seq
          (.ops [⟨0, some 60, none, .op .quiet (oArith .lss (.tmp 59) (.tmp 58)), []⟩])
          (.seq
           (.cond (.tmp 60)
            (.skip)
            (.exit 0))
           (.seq
            (.block 1
             (.seq
              (.ops [⟨0, some 61, none, .op .quiet (oIdxS 1 (.tmp 57) (.tmp 59)), []⟩,
                ⟨1, some 62, none, .op .reads (oLoad (.tmp 61)), []⟩,
                ⟨2, some 9, none, .op .quiet (oMv (.tmp 62)), []⟩])
              (.seq
               (.ops [⟨0, some 63, none, .op .quiet (oMv (.tmp 0)), []⟩,
                 ⟨1, some 64, none, .op .quiet (oNilCheck (.tmp 63)), []⟩,
                 ⟨2, some 65, none, .op .quiet (oFieldAddr 1 (.tmp 64)), []⟩,
                 ⟨3, some 66, none, .op .reads (oLoad (.tmp 65)), []⟩,
                 ⟨4, some 67, none, .op .quiet (oMv (.tmp 9)), []⟩,
                 ⟨5, some 68, none, .op .quiet (oIdxS 1 (.tmp 66) (.tmp 67)), []⟩,
                 ⟨6, some 69, none, .op .reads (oLoad (.tmp 68)), []⟩,
                 ⟨7, some 70, none, .op .quiet (oArith .eql (.tmp 69) (.val (.int .i64 1))), []⟩])
               (.cond (.tmp 70)
                (.seq
                 (.ops [⟨0, some 71, none, .op .quiet (oMv (.tmp 0)), []⟩,
                   ⟨1, some 72, none, .op .quiet (oNilCheck (.tmp 71)), []⟩,
                   ⟨2, some 73, none, .op .quiet (oFieldAddr 4 (.tmp 72)), []⟩,
                   ⟨3, some 74, none, .op .reads (oLoad (.tmp 73)), []⟩,
                   ⟨4, some 75, none, .op .quiet (oMv (.tmp 1)), []⟩,
                   ⟨5, some 76, none, .op .quiet (oIdxS 1 (.tmp 74) (.tmp 75)), []⟩,
                   ⟨6, some 77, none, .op .reads (oLoad (.tmp 76)), []⟩,
                   ⟨7, some 78, none, .op .quiet (oArith .add (.tmp 77) (.val (.int .i64 1))), []⟩,
                   ⟨8, some 79, none, .op .quiet (oIdxS 1 (.tmp 74) (.tmp 75)), []⟩,
                   ⟨9, none, none, .op .hard (oStore 1 (.tmp 79) (.tmp 78)), []⟩])
                 (.ops [⟨0, some 80, none, .op .quiet (oMv (.tmp 0)), []⟩,
                   ⟨1, some 81, none, .op .quiet (oNilCheck (.tmp 80)), []⟩,
                   ⟨2, some 82, none, .op .quiet (oFieldAddr 4 (.tmp 81)), []⟩,
                   ⟨3, some 83, none, .op .reads (oLoad (.tmp 82)), []⟩,
                   ⟨4, some 84, none, .op .quiet (oMv (.tmp 9)), []⟩,
                   ⟨5, some 85, none, .op .quiet (oIdxS 1 (.tmp 83) (.tmp 84)), []⟩,
                   ⟨6, some 86, none, .op .reads (oLoad (.tmp 85)), []⟩,
                   ⟨7, some 87, none, .op .quiet (oArith .add (.tmp 86) (.val (.int .i64 1))), []⟩,
                   ⟨8, some 88, none, .op .quiet (oIdxS 1 (.tmp 83) (.tmp 84)), []⟩,
                   ⟨9, none, none, .op .hard (oStore 1 (.tmp 88) (.tmp 87)), []⟩]))
                (.skip)))))
            (.ops [⟨0, some 89, none, .op .quiet (oArith .add (.tmp 59) (.val (.int .i64 1))), []⟩,
              ⟨1, some 59, none, .op .quiet (oMv (.tmp 89)), []⟩])))))))))))⟩
/-- (*tangram/order.peel).may -/
noncomputable def a278 : AF := ⟨[.tmp 4],
 (.seq
   (.ops [⟨0, some 4, none, .op .quiet (oMv (.val (.bool false))), []⟩])
   (.seq
    (.ops [⟨0, some 5, none, .op .quiet (oMv (.tmp 0)), []⟩,
      ⟨1, some 6, none, .op .quiet (oNilCheck (.tmp 5)), []⟩,
      ⟨2, some 7, none, .op .quiet (oFieldAddr 1 (.tmp 6)), []⟩,
      ⟨3, some 8, none, .op .reads (oLoad (.tmp 7)), []⟩,
      ⟨4, some 9, none, .op .quiet (oMv (.tmp 1)), []⟩,
      ⟨5, some 10, none, .op .quiet (oIdxS 1 (.tmp 8) (.tmp 9)), []⟩,
      ⟨6, some 11, none, .op .reads (oLoad (.tmp 10)), []⟩,
      ⟨7, some 12, none, .op .quiet (oArith .eql (.tmp 11) (.val (.int .i64 1))), []⟩,
      ⟨8, some 13, none, .op .quiet (oMv (.tmp 12)), []⟩,
      ⟨9, some 14, some (13, true), .op .quiet (oMv (.tmp 1)), []⟩,
      ⟨10, some 15, some (13, true), .op .quiet (oMv (.tmp 0)), []⟩,
      ⟨11, some 16, some (13, true), .op .quiet (oNilCheck (.tmp 15)), []⟩,
      ⟨12, some 17, some (13, true), .op .quiet (oFieldAddr 0 (.tmp 16)), []⟩,
      ⟨13, some 18, some (13, true), .op .reads (oLoad (.tmp 17)), []⟩,
      ⟨14, some 19, some (13, true), .op .quiet (oNilCheck (.tmp 18)), []⟩,
      ⟨15, some 20, some (13, true), .op .quiet (oFieldAddr 3 (.tmp 19)), []⟩,
      ⟨16, some 21, some (13, true), .op .reads (oLoad (.tmp 20)), []⟩,
      ⟨17, some 22, some (13, true), .op .quiet (oArith .neq (.tmp 14) (.tmp 21)), []⟩,
      ⟨18, some 23, none, .op .quiet (oPick (.tmp 13) (.tmp 22) (.val (.bool false))), []⟩,
      ⟨19, some 24, none, .op .quiet (oMv (.tmp 23)), []⟩,
      ⟨20, some 25, some (24, true), .op .quiet (oMv (.tmp 1)), []⟩,
      ⟨21, some 26, some (24, true), .op .quiet (oMv (.tmp 0)), []⟩,
      ⟨22, some 27, some (24, true), .op .quiet (oNilCheck (.tmp 26)), []⟩,
      ⟨23, some 28, some (24, true), .op .quiet (oFieldAddr 0 (.tmp 27)), []⟩,
      ⟨24, some 29, some (24, true), .op .reads (oLoad (.tmp 28)), []⟩,
      ⟨25, some 30, some (24, true), .op .quiet (oNilCheck (.tmp 29)), []⟩,
      ⟨26, some 31, some (24, true), .op .quiet (oFieldAddr 4 (.tmp 30)), []⟩,
      ⟨27, some 32, some (24, true), .op .reads (oLoad (.tmp 31)), []⟩,
      ⟨28, some 33, some (24, true), .op .quiet (oArith .neq (.tmp 25) (.tmp 32)), []⟩,
      ⟨29, some 34, none, .op .quiet (oPick (.tmp 24) (.tmp 33) (.val (.bool false))), []⟩,
      ⟨30, some 35, none, .op .quiet (oMv (.tmp 34)), []⟩,
      ⟨31, some 36, some (35, true), .op .quiet (oMv (.tmp 0)), []⟩,
      ⟨32, some 37, some (35, true), .op .quiet (oNilCheck (.tmp 36)), []⟩,
      ⟨33, some 38, some (35, true), .op .quiet (oFieldAddr 4 (.tmp 37)), []⟩,
      ⟨34, some 39, some (35, true), .op .reads (oLoad (.tmp 38)), []⟩,
      ⟨35, some 40, some (35, true), .op .quiet (oMv (.tmp 1)), []⟩,
      ⟨36, some 41, some (35, true), .op .quiet (oIdxS 1 (.tmp 39) (.tmp 40)), []⟩,
      ⟨37, some 42, some (35, true), .op .reads (oLoad (.tmp 41)), []⟩,
      ⟨38, some 43, some (35, true), .op .quiet (oArith .eql (.tmp 42) (.val (.int .i64 2))), []⟩,
      ⟨39, some 44, none, .op .quiet (oPick (.tmp 35) (.tmp 43) (.val (.bool false))), []⟩,
      ⟨40, some 4, none, .op .quiet (oMv (.tmp 44)), []⟩])
    (.ret)))⟩
/-- (*tangram/order.peel).take -/
noncomputable def a279 : AF := ⟨[.tmp 4],
 (.seq
   (.ops [⟨0, some 4, none, .op .quiet (oMv (.val (.slice none 0 0))), []⟩])
   (.seq
    (.ops [⟨0, some 11, none, .op .quiet (oMv (.tmp 0)), []⟩,
      ⟨1, some 12, none, .op .quiet (oMv (.tmp 1)), []⟩,
      ⟨2, some 13, none, .callF 327 [(.tmp 11), (.tmp 12)], []⟩,
      ⟨3, some 5, none, .op .quiet (oMv (.tmp 13)), []⟩])
    (.seq
     (.ops [⟨0, some 14, none, .op .quiet (oMv (.tmp 0)), []⟩,
       ⟨1, some 15, none, .op .quiet (oNilCheck (.tmp 14)), []⟩,
       ⟨2, some 16, none, .op .quiet (oFieldAddr 1 (.tmp 15)), []⟩,
       ⟨3, some 17, none, .op .reads (oLoad (.tmp 16)), []⟩,
       ⟨4, some 18, none, .op .quiet (oMv (.tmp 1)), []⟩,
       ⟨5, some 19, none, .op .quiet (oIdxS 1 (.tmp 17) (.tmp 18)), []⟩,
       ⟨6, none, none, .op .hard (oStore 1 (.tmp 19) (.val (.int .i64 2))), []⟩])
     (.seq
      (.ops [⟨0, some 20, none, .op .quiet (oBuildSlice 1 0 [(.int .i64 0)] [] []), []⟩,
        ⟨1, some 21, none, .op .quiet (oMv (.tmp 0)), []⟩,
        ⟨2, some 22, none, .op .quiet (oNilCheck (.tmp 21)), []⟩,
        ⟨3, some 23, none, .op .quiet (oFieldAddr 0 (.tmp 22)), []⟩,
        ⟨4, some 24, none, .op .reads (oLoad (.tmp 23)), []⟩,
        ⟨5, some 25, none, .op .quiet (oNilCheck (.tmp 24)), []⟩,
        ⟨6, some 26, none, .op .quiet (oFieldAddr 2 (.tmp 25)), []⟩,
        ⟨7, some 27, none, .op .reads (oLoad (.tmp 26)), []⟩,
        ⟨8, some 28, none, .op .quiet (oMv (.tmp 1)), []⟩,
        ⟨9, some 29, none, .op .quiet (oIdxS 1 (.tmp 27) (.tmp 28)), []⟩,
        ⟨10, some 30, none, .op .reads (oLoad (.tmp 29)), []⟩,
        ⟨11, some 31, none, .op .hard (oAppend 1 8 (.tmp 20) (.tmp 30)), []⟩,
        ⟨12, some 6, none, .op .quiet (oMv (.tmp 31)), []⟩])
      (.seq
       (.seq
        (.ops [⟨0, some 32, none, .op .quiet (oMv (.tmp 0)), []⟩,
          ⟨1, some 33, none, .op .quiet (oNilCheck (.tmp 32)), []⟩,
          ⟨2, some 34, none, .op .quiet (oFieldAddr 0 (.tmp 33)), []⟩,
          ⟨3, some 35, none, .op .reads (oLoad (.tmp 34)), []⟩,
          ⟨4, some 36, none, .op .quiet (oNilCheck (.tmp 35)), []⟩,
          ⟨5, some 37, none, .op .quiet (oFieldAddr 2 (.tmp 36)), []⟩,
          ⟨6, some 38, none, .op .reads (oLoad (.tmp 37)), []⟩,
          ⟨7, some 39, none, .op .quiet (oMv (.tmp 1)), []⟩,
          ⟨8, some 40, none, .op .quiet (oIdxS 1 (.tmp 38) (.tmp 39)), []⟩,
          ⟨9, some 41, none, .op .reads (oLoad (.tmp 40)), []⟩,
          ⟨10, some 42, none, .op .reads (oLen .slice (.tmp 41)), []⟩,
          ⟨11, some 43, none, .op .quiet (oMv (.val (.int .i64 0))), []⟩])
        (.block 0
         (.loop
          (.seq
           (.ops [⟨0, some 44, none, .op .quiet (oArith .lss (.tmp 43) (.tmp 42)), []⟩])
           (.seq
            (.cond (.tmp 44)
             (.skip)
             (.exit 0))
            (.seq
             (.block 1
              (.seq
               (.ops [⟨0, some 45, none, .op .quiet (oIdxS 1 (.tmp 41) (.tmp 43)), []⟩,
                 ⟨1, some 46, none, .op .reads (oLoad (.tmp 45)), []⟩,
                 ⟨2, some 8, none, .op .quiet (oMv (.tmp 46)), []⟩])
               (.seq
                (.ops [⟨0, some 47, none, .op .quiet (oMv (.tmp 0)), []⟩,
                  ⟨1, some 48, none, .op .quiet (oNilCheck (.tmp 47)), []⟩,
                  ⟨2, some 49, none, .op .quiet (oFieldAddr 1 (.tmp 48)), []⟩,
                  ⟨3, some 50, none, .op .reads (oLoad (.tmp 49)), []⟩,
                  ⟨4, some 51, none, .op .quiet (oMv (.tmp 8)), []⟩,
                  ⟨5, some 52, none, .op .quiet (oIdxS 1 (.tmp 50) (.tmp 51)), []⟩,
                  ⟨6, some 53, none, .op .reads (oLoad (.tmp 52)), []⟩,
                  ⟨7, some 54, none, .op .quiet (oArith .eql (.tmp 53) (.val (.int .i64 1))), []⟩])
                (.cond (.tmp 54)
                 (.ops [⟨0, some 55, none, .op .quiet (oMv (.tmp 0)), []⟩,
                   ⟨1, some 56, none, .op .quiet (oNilCheck (.tmp 55)), []⟩,
                   ⟨2, some 57, none, .op .quiet (oFieldAddr 4 (.tmp 56)), []⟩,
                   ⟨3, some 58, none, .op .reads (oLoad (.tmp 57)), []⟩,
                   ⟨4, some 59, none, .op .quiet (oMv (.tmp 8)), []⟩,
                   ⟨5, some 60, none, .op .quiet (oIdxS 1 (.tmp 58) (.tmp 59)), []⟩,
                   ⟨6, some 61, none, .op .reads (oLoad (.tmp 60)), []⟩,
                   ⟨7, some 62, none, .op .quiet (oArith .sub (.tmp 61) (.val (.int .i64 1))), []⟩,
                   ⟨8, some 63, none, .op .quiet (oIdxS 1 (.tmp 58) (.tmp 59)), []⟩,
                   ⟨9, none, none, .op .hard (oStore 1 (.tmp 63) (.tmp 62)), []⟩])
                 (.skip)))))
             (.ops [⟨0, some 64, none, .op .quiet (oArith .add (.tmp 43) (.val (.int .i64 1))), []⟩,
               ⟨1, some 43, none, .op .quiet (oMv (.tmp 64)), []⟩])))))))
       (.seq
        (.ops [⟨0, some 65, none, .op .quiet (oMv (.tmp 5)), []⟩,
          ⟨1, some 66, none, .op .quiet (oMv (.tmp 5)), []⟩,
          ⟨2, some 67, none, .op .reads (oLen .slice (.tmp 66)), []⟩,
          ⟨3, some 68, none, .op .quiet (oArith .sub (.tmp 67) (.val (.int .i64 1))), []⟩,
          ⟨4, some 69, none, .op .quiet (oIdxS 1 (.tmp 65) (.tmp 68)), []⟩,
          ⟨5, some 70, none, .op .reads (oLoad (.tmp 69)), []⟩,
          ⟨6, some 9, none, .op .quiet (oMv (.tmp 70)), []⟩])
        (.seq
         (.drawn [⟨0, some 71, none, .op .quiet (oMv (.tmp 0)), []⟩,
           ⟨1, some 72, none, .op .quiet (oNilCheck (.tmp 71)), []⟩,
           ⟨2, some 73, none, .op .quiet (oFieldAddr 2 (.tmp 72)), []⟩,
           ⟨3, some 74, none, .op .reads (oLoad (.tmp 73)), []⟩,
           ⟨4, some 75, none, .op .quiet (oMv (.tmp 5)), []⟩,
           ⟨5, some 76, none, .op .quiet (oIdxS 1 (.tmp 75) (.val (.int .i64 0))), []⟩,
           ⟨6, some 77, none, .op .reads (oLoad (.tmp 76)), []⟩,
           ⟨7, some 78, none, .op .quiet (oMv (.tmp 0)), []⟩,
           ⟨8, some 79, none, .op .quiet (oNilCheck (.tmp 78)), []⟩,
           ⟨9, some 80, none, .op .quiet (oFieldAddr 3 (.tmp 79)), []⟩,
           ⟨10, some 81, none, .op .reads (oLoad (.tmp 80)), []⟩,
           ⟨11, some 82, none, .op .quiet (oMv (.tmp 9)), []⟩,
           ⟨12, some 83, none, .op .quiet (oMv (.tmp 9)), []⟩,
           ⟨13, some 84, none, .op .quiet (oMv (.tmp 5)), []⟩,
           ⟨14, some 85, none, .op .quiet (oIdxS 1 (.tmp 84) (.val (.int .i64 0))), []⟩,
           ⟨15, some 86, none, .op .reads (oLoad (.tmp 85)), []⟩,
           ⟨16, some 87, none, .op .quiet (oIdxS 1 (.tmp 74) (.tmp 77)), []⟩,
           ⟨17, none, none, .op .hard (oStore 1 (.tmp 87) (.tmp 83)), []⟩,
           ⟨18, some 88, none, .op .quiet (oIdxS 1 (.tmp 81) (.tmp 82)), []⟩,
           ⟨19, none, none, .op .hard (oStore 1 (.tmp 88) (.tmp 86)), []⟩])
         (.seq
          (.seq
           (.ops [⟨0, some 10, none, .op .quiet (oMv (.val (.int .i64 1))), []⟩])
           (.block 2
            (.loop
             (.seq
              (.seq
               (.ops [⟨0, some 89, none, .op .quiet (oMv (.tmp 10)), []⟩,
                 ⟨1, some 90, none, .op .quiet (oArith .add (.tmp 89) (.val (.int .i64 1))), []⟩,
                 ⟨2, some 91, none, .op .quiet (oMv (.tmp 5)), []⟩,
                 ⟨3, some 92, none, .op .reads (oLen .slice (.tmp 91)), []⟩,
                 ⟨4, some 93, none, .op .quiet (oArith .lss (.tmp 90) (.tmp 92)), []⟩])
               (.cond (.tmp 93)
                (.skip)
                (.exit 2)))
              (.seq
               (.block 3
                (.seq
                 (.drawn [⟨0, some 96, none, .op .quiet (oMv (.tmp 0)), []⟩,
                   ⟨1, some 97, none, .op .quiet (oMv (.tmp 5)), []⟩,
                   ⟨2, some 98, none, .op .quiet (oMv (.tmp 10)), []⟩,
                   ⟨3, some 99, none, .op .quiet (oIdxS 1 (.tmp 97) (.tmp 98)), []⟩,
                   ⟨4, some 100, none, .op .reads (oLoad (.tmp 99)), []⟩,
                   ⟨5, some 101, none, .op .quiet (oMv (.tmp 5)), []⟩,
                   ⟨6, some 102, none, .op .quiet (oMv (.tmp 10)), []⟩,
                   ⟨7, some 103, none, .op .quiet (oArith .sub (.tmp 102) (.val (.int .i64 1))), []⟩,
                   ⟨8, some 104, none, .op .quiet (oIdxS 1 (.tmp 101) (.tmp 103)), []⟩,
                   ⟨9, some 105, none, .op .reads (oLoad (.tmp 104)), []⟩,
                   ⟨10, some 106, none, .op .quiet (oMv (.tmp 9)), []⟩,
                   ⟨11, some 107, none, .callF 277 [(.tmp 96), (.tmp 100), (.tmp 105), (.tmp 106)], []⟩])
                 (.drawn [⟨0, some 108, none, .op .quiet (oMv (.tmp 6)), []⟩,
                   ⟨1, some 109, none, .op .quiet (oMv (.tmp 0)), []⟩,
                   ⟨2, some 110, none, .op .quiet (oNilCheck (.tmp 109)), []⟩,
                   ⟨3, some 111, none, .op .quiet (oFieldAddr 0 (.tmp 110)), []⟩,
                   ⟨4, some 112, none, .op .reads (oLoad (.tmp 111)), []⟩,
                   ⟨5, some 113, none, .op .quiet (oNilCheck (.tmp 112)), []⟩,
                   ⟨6, some 114, none, .op .quiet (oFieldAddr 2 (.tmp 113)), []⟩,
                   ⟨7, some 115, none, .op .reads (oLoad (.tmp 114)), []⟩,
                   ⟨8, some 116, none, .op .quiet (oMv (.tmp 5)), []⟩,
                   ⟨9, some 117, none, .op .quiet (oMv (.tmp 10)), []⟩,
                   ⟨10, some 118, none, .op .quiet (oIdxS 1 (.tmp 116) (.tmp 117)), []⟩,
                   ⟨11, some 119, none, .op .reads (oLoad (.tmp 118)), []⟩,
                   ⟨12, some 120, none, .op .quiet (oIdxS 1 (.tmp 115) (.tmp 119)), []⟩,
                   ⟨13, some 121, none, .op .reads (oLoad (.tmp 120)), []⟩,
                   ⟨14, some 122, none, .op .hard (oAppend 1 8 (.tmp 108) (.tmp 121)), []⟩,
                   ⟨15, some 6, none, .op .quiet (oMv (.tmp 122)), []⟩])))
               (.ops [⟨0, some 94, none, .op .quiet (oMv (.tmp 10)), []⟩,
                 ⟨1, some 95, none, .op .quiet (oArith .add (.tmp 94) (.val (.int .i64 1))), []⟩,
                 ⟨2, some 10, none, .op .quiet (oMv (.tmp 95)), []⟩]))))))
          (.seq
           (.ops [⟨0, some 123, none, .op .quiet (oMv (.tmp 6)), []⟩,
             ⟨1, some 4, none, .op .quiet (oMv (.tmp 123)), []⟩])
           (.ret))))))))))⟩
/-- (*tangram/order.frame).covers -/
noncomputable def a280 : AF := ⟨[.tmp 4, .tmp 5],
 (.seq
   (.ops [⟨0, some 4, none, .op .quiet (oMv (.val (.slice none 0 0))), []⟩,
     ⟨1, some 5, none, .op .quiet (oMv (.val (.bool false))), []⟩])
   (.seq
    (.ops [⟨0, some 16, none, .op .quiet (oMv (.tmp 0)), []⟩,
      ⟨1, some 17, none, .op .quiet (oNilCheck (.tmp 16)), []⟩,
      ⟨2, some 18, none, .op .quiet (oFieldAddr 0 (.tmp 17)), []⟩,
      ⟨3, some 19, none, .op .quiet (oFieldAddr 0 (.tmp 18)), []⟩,
      ⟨4, some 20, none, .op .reads (oLoad (.tmp 19)), []⟩,
      ⟨5, some 6, none, .op .quiet (oMv (.tmp 20)), []⟩])
    (.seq
     (.seq
      (.ops [⟨0, some 21, none, .op .quiet (oMv (.tmp 1)), []⟩,
        ⟨1, some 22, none, .op .reads (oLen .slice (.tmp 21)), []⟩,
        ⟨2, some 23, none, .op .quiet (oMv (.tmp 6)), []⟩,
        ⟨3, some 24, none, .op .quiet (oArith .neq (.tmp 22) (.tmp 23)), []⟩])
      (.cond (.tmp 24)
       (.seq
        (.ops [⟨0, some 4, none, .op .quiet (oMv (.val (.slice none 0 0))), []⟩,
          ⟨1, some 5, none, .op .quiet (oMv (.val (.bool false))), []⟩])
        (.ret))
       (.skip)))
     (.seq
      (.drawn [⟨0, some 25, none, .op .quiet (oMv (.tmp 0)), []⟩,
        ⟨1, some 26, none, .op .quiet (oMv (.tmp 6)), []⟩,
        ⟨2, some 27, none, .op .quiet (oMkSlice 1 8 [(.int .i64 0)] (.tmp 26) (.tmp 26)), []⟩,
        ⟨3, some 28, none, .op .quiet (oMv (.tmp 0)), []⟩,
        ⟨4, some 29, none, .op .quiet (oNilCheck (.tmp 28)), []⟩,
        ⟨5, some 30, none, .op .quiet (oFieldAddr 3 (.tmp 29)), []⟩,
        ⟨6, some 31, none, .op .reads (oLoad (.tmp 30)), []⟩,
        ⟨7, some 32, none, .op .quiet (oMv (.tmp 0)), []⟩,
        ⟨8, some 33, none, .op .quiet (oNilCheck (.tmp 32)), []⟩,
        ⟨9, some 34, none, .op .quiet (oFieldAddr 4 (.tmp 33)), []⟩,
        ⟨10, some 35, none, .op .reads (oLoad (.tmp 34)), []⟩,
        ⟨11, some 36, none, .op .quiet (oBuildSlice 1 2 [(.int .i64 0)] [(0, 1), (1, 1)] [(.tmp 31), (.tmp 35)]), []⟩,
        ⟨12, some 37, none, .op .quiet (oBuild [(.pointer none), (.slice none 0 0), (.slice none 0 0)] [(0, 1), (1, 1), (2, 1)] [(.tmp 25), (.tmp 27), (.tmp 36)]), []⟩,
        ⟨13, some 38, none, .op .quiet (oBox (.tmp 37)), []⟩,
        ⟨14, some 7, none, .op .quiet (oMv (.tmp 38)), []⟩])
      (.seq
       (.seq
        (.ops [⟨0, some 39, none, .op .quiet (oMv (.tmp 7)), []⟩,
          ⟨1, some 40, none, .op .quiet (oNilCheck (.tmp 39)), []⟩,
          ⟨2, some 41, none, .op .quiet (oFieldAddr 1 (.tmp 40)), []⟩,
          ⟨3, some 42, none, .op .reads (oLoad (.tmp 41)), []⟩,
          ⟨4, some 43, none, .op .reads (oLen .slice (.tmp 42)), []⟩,
          ⟨5, some 44, none, .op .quiet (oMv (.val (.int .i64 0))), []⟩])
        (.block 0
         (.loop
          (.seq
           (.ops [⟨0, some 45, none, .op .quiet (oArith .lss (.tmp 44) (.tmp 43)), []⟩])
           (.seq
            (.cond (.tmp 45)
             (.skip)
             (.exit 0))
            (.seq
             (.block 1
              (.seq
               (.ops [⟨0, some 46, none, .op .quiet (oMv (.tmp 44)), []⟩,
                 ⟨1, some 8, none, .op .quiet (oMv (.tmp 46)), []⟩])
               (.ops [⟨0, some 47, none, .op .quiet (oMv (.tmp 7)), []⟩,
                 ⟨1, some 48, none, .op .quiet (oNilCheck (.tmp 47)), []⟩,
                 ⟨2, some 49, none, .op .quiet (oFieldAddr 1 (.tmp 48)), []⟩,
                 ⟨3, some 50, none, .op .reads (oLoad (.tmp 49)), []⟩,
                 ⟨4, some 51, none, .op .quiet (oMv (.tmp 8)), []⟩,
                 ⟨5, some 52, none, .op .quiet (oIdxS 1 (.tmp 50) (.tmp 51)), []⟩,
                 ⟨6, none, none, .op .hard (oStore 1 (.tmp 52) (.val (.int .i64 (-1)))), []⟩])))
             (.ops [⟨0, some 53, none, .op .quiet (oArith .add (.tmp 44) (.val (.int .i64 1))), []⟩,
               ⟨1, some 44, none, .op .quiet (oMv (.tmp 53)), []⟩])))))))
       (.seq
        (.seq
         (.ops [⟨0, some 54, none, .op .quiet (oMv (.tmp 1)), []⟩,
           ⟨1, some 55, none, .op .reads (oLen .slice (.tmp 54)), []⟩,
           ⟨2, some 56, none, .op .quiet (oMv (.val (.int .i64 0))), []⟩])
         (.block 2
          (.loop
           (.seq
            (.ops [⟨0, some 57, none, .op .quiet (oArith .lss (.tmp 56) (.tmp 55)), []⟩])
            (.seq
             (.cond (.tmp 57)
              (.skip)
              (.exit 2))
             (.seq
              (.block 3
               (.seq
                (.ops [⟨0, some 58, none, .op .quiet (oMv (.tmp 56)), []⟩,
                  ⟨1, some 59, none, .op .quiet (oIdxS 1 (.tmp 54) (.tmp 56)), []⟩,
                  ⟨2, some 60, none, .op .reads (oLoad (.tmp 59)), []⟩,
                  ⟨3, some 9, none, .op .quiet (oMv (.tmp 58)), []⟩,
                  ⟨4, some 10, none, .op .quiet (oMv (.tmp 60)), []⟩])
                (.seq
                 (.seq
                  (.ops [⟨0, some 61, none, .op .quiet (oMv (.tmp 10)), []⟩,
                    ⟨1, some 62, none, .op .quiet (oArith .lss (.tmp 61) (.val (.int .i64 0))), []⟩,
                    ⟨2, some 63, none, .op .quiet (oMv (.tmp 62)), []⟩,
                    ⟨3, some 64, some (63, false), .op .quiet (oMv (.tmp 10)), []⟩,
                    ⟨4, some 65, some (63, false), .op .quiet (oMv (.tmp 6)), []⟩,
                    ⟨5, some 66, some (63, false), .op .quiet (oArith .geq (.tmp 64) (.tmp 65)), []⟩,
                    ⟨6, some 67, none, .op .quiet (oPick (.tmp 63) (.val (.bool true)) (.tmp 66)), []⟩,
                    ⟨7, some 68, none, .op .quiet (oMv (.tmp 67)), []⟩,
                    ⟨8, some 69, some (68, false), .op .quiet (oMv (.tmp 7)), []⟩,
                    ⟨9, some 70, some (68, false), .op .quiet (oNilCheck (.tmp 69)), []⟩,
                    ⟨10, some 71, some (68, false), .op .quiet (oFieldAddr 1 (.tmp 70)), []⟩,
                    ⟨11, some 72, some (68, false), .op .reads (oLoad (.tmp 71)), []⟩,
                    ⟨12, some 73, some (68, false), .op .quiet (oMv (.tmp 10)), []⟩,
                    ⟨13, some 74, some (68, false), .op .quiet (oIdxS 1 (.tmp 72) (.tmp 73)), []⟩,
                    ⟨14, some 75, some (68, false), .op .reads (oLoad (.tmp 74)), []⟩,
                    ⟨15, some 76, some (68, false), .op .quiet (oArith .geq (.tmp 75) (.val (.int .i64 0))), []⟩,
                    ⟨16, some 77, none, .op .quiet (oPick (.tmp 68) (.val (.bool true)) (.tmp 76)), []⟩])
                  (.cond (.tmp 77)
                   (.seq
                    (.ops [⟨0, some 4, none, .op .quiet (oMv (.val (.slice none 0 0))), []⟩,
                      ⟨1, some 5, none, .op .quiet (oMv (.val (.bool false))), []⟩])
                    (.ret))
                   (.skip)))
                 (.ops [⟨0, some 78, none, .op .quiet (oMv (.tmp 7)), []⟩,
                   ⟨1, some 79, none, .op .quiet (oNilCheck (.tmp 78)), []⟩,
                   ⟨2, some 80, none, .op .quiet (oFieldAddr 1 (.tmp 79)), []⟩,
                   ⟨3, some 81, none, .op .reads (oLoad (.tmp 80)), []⟩,
                   ⟨4, some 82, none, .op .quiet (oMv (.tmp 10)), []⟩,
                   ⟨5, some 83, none, .op .quiet (oMv (.tmp 9)), []⟩,
                   ⟨6, some 84, none, .op .quiet (oIdxS 1 (.tmp 81) (.tmp 82)), []⟩,
                   ⟨7, none, none, .op .hard (oStore 1 (.tmp 84) (.tmp 83)), []⟩]))))
              (.ops [⟨0, some 85, none, .op .quiet (oArith .add (.tmp 56) (.val (.int .i64 1))), []⟩,
                ⟨1, some 56, none, .op .quiet (oMv (.tmp 85)), []⟩])))))))
        (.seq
         (.seq
          (.drawn [⟨0, some 86, none, .op .quiet (oMv (.tmp 1)), []⟩,
            ⟨1, some 87, none, .op .quiet (oIdxS 1 (.tmp 86) (.val (.int .i64 0))), []⟩,
            ⟨2, some 88, none, .op .reads (oLoad (.tmp 87)), []⟩,
            ⟨3, some 89, none, .op .quiet (oMv (.tmp 0)), []⟩,
            ⟨4, some 90, none, .op .quiet (oNilCheck (.tmp 89)), []⟩,
            ⟨5, some 91, none, .op .quiet (oFieldAddr 3 (.tmp 90)), []⟩,
            ⟨6, some 92, none, .op .reads (oLoad (.tmp 91)), []⟩,
            ⟨7, some 93, none, .op .quiet (oArith .neq (.tmp 88) (.tmp 92)), []⟩,
            ⟨8, some 94, none, .op .quiet (oMv (.tmp 93)), []⟩,
            ⟨9, some 95, some (94, false), .op .quiet (oMv (.tmp 1)), []⟩,
            ⟨10, some 96, some (94, false), .op .quiet (oIdxS 1 (.tmp 95) (.val (.int .i64 1))), []⟩,
            ⟨11, some 97, some (94, false), .op .reads (oLoad (.tmp 96)), []⟩,
            ⟨12, some 98, some (94, false), .op .quiet (oMv (.tmp 0)), []⟩,
            ⟨13, some 99, some (94, false), .op .quiet (oNilCheck (.tmp 98)), []⟩,
            ⟨14, some 100, some (94, false), .op .quiet (oFieldAddr 4 (.tmp 99)), []⟩,
            ⟨15, some 101, some (94, false), .op .reads (oLoad (.tmp 100)), []⟩,
            ⟨16, some 102, some (94, false), .op .quiet (oArith .neq (.tmp 97) (.tmp 101)), []⟩,
            ⟨17, some 103, none, .op .quiet (oPick (.tmp 94) (.val (.bool true)) (.tmp 102)), []⟩,
            ⟨18, some 104, none, .op .quiet (oMv (.tmp 103)), []⟩,
            ⟨19, some 105, some (104, false), .op .quiet (oMv (.tmp 1)), []⟩,
            ⟨20, some 106, some (104, false), .op .quiet (oMv (.tmp 6)), []⟩,
            ⟨21, some 107, some (104, false), .op .quiet (oArith .sub (.tmp 106) (.val (.int .i64 1))), []⟩,
            ⟨22, some 108, some (104, false), .op .quiet (oIdxS 1 (.tmp 105) (.tmp 107)), []⟩,
            ⟨23, some 109, some (104, false), .op .reads (oLoad (.tmp 108)), []⟩,
            ⟨24, some 110, some (104, false), .op .quiet (oMv (.tmp 0)), []⟩,
            ⟨25, some 111, some (104, false), .op .quiet (oNilCheck (.tmp 110)), []⟩,
            ⟨26, some 112, some (104, false), .op .quiet (oFieldAddr 5 (.tmp 111)), []⟩,
            ⟨27, some 113, some (104, false), .op .reads (oLoad (.tmp 112)), []⟩,
            ⟨28, some 114, some (104, false), .op .quiet (oArith .neq (.tmp 109) (.tmp 113)), []⟩,
            ⟨29, some 115, none, .op .quiet (oPick (.tmp 104) (.val (.bool true)) (.tmp 114)), []⟩])
          (.cond (.tmp 115)
           (.seq
            (.ops [⟨0, some 4, none, .op .quiet (oMv (.val (.slice none 0 0))), []⟩,
              ⟨1, some 5, none, .op .quiet (oMv (.val (.bool false))), []⟩])
            (.ret))
           (.skip)))
         (.seq
          (.ops [⟨0, some 116, none, .op .quiet (oMv (.tmp 6)), []⟩,
            ⟨1, some 117, none, .op .quiet (oMkSlice 1 24 [(.slice none 0 0)] (.tmp 116) (.tmp 116)), []⟩,
            ⟨2, some 11, none, .op .quiet (oMv (.tmp 117)), []⟩])
          (.seq
           (.seq
            (.ops [⟨0, some 118, none, .op .quiet (oMv (.tmp 1)), []⟩,
              ⟨1, some 119, none, .op .quiet (oSlice 1 (.tmp 118) (some (.val (.int .i64 2))) none none), []⟩,
              ⟨2, some 120, none, .op .reads (oLen .slice (.tmp 119)), []⟩,
              ⟨3, some 121, none, .op .quiet (oMv (.val (.int .i64 0))), []⟩])
            (.block 4
             (.loop
              (.seq
               (.ops [⟨0, some 122, none, .op .quiet (oArith .lss (.tmp 121) (.tmp 120)), []⟩])
               (.seq
                (.cond (.tmp 122)
                 (.skip)
                 (.exit 4))
                (.seq
                 (.block 5
                  (.seq
                   (.ops [⟨0, some 123, none, .op .quiet (oMv (.tmp 121)), []⟩,
                     ⟨1, some 124, none, .op .quiet (oIdxS 1 (.tmp 119) (.tmp 121)), []⟩,
                     ⟨2, some 125, none, .op .reads (oLoad (.tmp 124)), []⟩,
                     ⟨3, some 12, none, .op .quiet (oMv (.tmp 123)), []⟩,
                     ⟨4, some 13, none, .op .quiet (oMv (.tmp 125)), []⟩])
                   (.seq
                    (.ops [⟨0, some 127, none, .op .quiet (oMv (.tmp 7)), []⟩,
                      ⟨1, some 128, none, .op .quiet (oMv (.tmp 13)), []⟩,
                      ⟨2, some 129, none, .callF 328 [(.tmp 127), (.tmp 128)], []⟩,
                      ⟨3, some 126, none, .op .quiet (oMv (.tmp 129)), []⟩,
                      ⟨4, some 130, none, .op .quiet (oExtract 0 (.tmp 126)), []⟩,
                      ⟨5, some 131, none, .op .quiet (oExtract 1 (.tmp 126)), []⟩,
                      ⟨6, some 14, none, .op .quiet (oMv (.tmp 130)), []⟩,
                      ⟨7, some 15, none, .op .quiet (oMv (.tmp 131)), []⟩])
                    (.seq
                     (.seq
                      (.ops [⟨0, some 132, none, .op .quiet (oMv (.tmp 15)), []⟩,
                        ⟨1, some 133, none, .op .quiet (oNot (.tmp 132)), []⟩])
                      (.cond (.tmp 133)
                       (.seq
                        (.ops [⟨0, some 4, none, .op .quiet (oMv (.val (.slice none 0 0))), []⟩,
                          ⟨1, some 5, none, .op .quiet (oMv (.val (.bool false))), []⟩])
                        (.ret))
                       (.skip)))
                     (.ops [⟨0, some 134, none, .op .quiet (oMv (.tmp 11)), []⟩,
                       ⟨1, some 135, none, .op .quiet (oMv (.tmp 12)), []⟩,
                       ⟨2, some 136, none, .op .quiet (oArith .add (.tmp 135) (.val (.int .i64 2))), []⟩,
                       ⟨3, some 137, none, .op .quiet (oMv (.tmp 14)), []⟩,
                       ⟨4, some 138, none, .op .quiet (oIdxS 1 (.tmp 134) (.tmp 136)), []⟩,
                       ⟨5, none, none, .op .hard (oStore 1 (.tmp 138) (.tmp 137)), []⟩])))))
                 (.ops [⟨0, some 139, none, .op .quiet (oArith .add (.tmp 121) (.val (.int .i64 1))), []⟩,
                   ⟨1, some 121, none, .op .quiet (oMv (.tmp 139)), []⟩])))))))
           (.seq
            (.ops [⟨0, some 140, none, .op .quiet (oMv (.tmp 11)), []⟩,
              ⟨1, some 4, none, .op .quiet (oMv (.tmp 140)), []⟩,
              ⟨2, some 5, none, .op .quiet (oMv (.val (.bool true))), []⟩])
            (.ret)))))))))))⟩
/-- tangram/grid.laid$1 -/
noncomputable def a281 : AF := ⟨[],
 (.ops [⟨0, some 5, none, .op .reads (oLoad (.tmp 2)), []⟩,
    ⟨1, some 6, none, .op .quiet (oMv (.tmp 0)), []⟩,
    ⟨2, some 7, none, .op .quiet (oIdxS 1 (.tmp 5) (.tmp 6)), []⟩,
    ⟨3, some 8, none, .op .reads (oLoad (.tmp 7)), []⟩,
    ⟨4, some 9, none, .op .quiet (oMv (.tmp 1)), []⟩,
    ⟨5, some 10, none, .op .quiet (oArith .add (.tmp 8) (.tmp 9)), []⟩,
    ⟨6, some 11, none, .op .quiet (oIdxS 1 (.tmp 5) (.tmp 6)), []⟩,
    ⟨7, none, none, .op .hard (oStore 1 (.tmp 11) (.tmp 10)), []⟩])⟩
/-- (*tangram/csr.Adj).vertex -/
noncomputable def a284 : AF := ⟨[.tmp 4],
 (.seq
   (.ops [⟨0, some 4, none, .op .quiet (oMv (.val (.bool false))), []⟩])
   (.seq
    (.ops [⟨0, some 5, none, .op .quiet (oMv (.tmp 1)), []⟩,
      ⟨1, some 6, none, .op .quiet (oArith .geq (.tmp 5) (.val (.int .i64 0))), []⟩,
      ⟨2, some 7, none, .op .quiet (oMv (.tmp 6)), []⟩,
      ⟨3, some 8, some (7, true), .op .quiet (oMv (.tmp 1)), []⟩,
      ⟨4, some 9, some (7, true), .op .quiet (oMv (.tmp 0)), []⟩,
      ⟨5, some 10, some (7, true), .callF 329 [(.tmp 9)], []⟩,
      ⟨6, some 11, some (7, true), .op .quiet (oArith .lss (.tmp 8) (.tmp 10)), []⟩,
      ⟨7, some 12, none, .op .quiet (oPick (.tmp 7) (.tmp 11) (.val (.bool false))), []⟩,
      ⟨8, some 4, none, .op .quiet (oMv (.tmp 12)), []⟩])
    (.ret)))⟩
/-- tangram/dfs.places -/
noncomputable def a285 : AF := ⟨[.tmp 4, .tmp 5],
 (.seq
   (.ops [⟨0, some 2, none, .op .quiet (oBox (.tmp 0)), []⟩,
     ⟨1, some 3, none, .op .quiet (oBox (.tmp 1)), []⟩,
     ⟨2, some 4, none, .op .quiet (oMv (.val (.slice none 0 0))), []⟩,
     ⟨3, some 5, none, .op .quiet (oMv (.val (.bool false))), []⟩])
   (.seq
    (.ops [⟨0, some 9, none, .op .quiet (oFieldAddr 0 (.tmp 2)), []⟩,
      ⟨1, some 10, none, .op .reads (oLoad (.tmp 9)), []⟩,
      ⟨2, some 11, none, .callF 165 [(.tmp 10), (.val (.int .i64 (-1)))], []⟩,
      ⟨3, some 6, none, .op .quiet (oMv (.tmp 11)), []⟩])
    (.seq
     (.seq
      (.ops [⟨0, some 12, none, .op .quiet (oFieldAddr 2 (.tmp 3)), []⟩,
        ⟨1, some 13, none, .op .reads (oLoad (.tmp 12)), []⟩,
        ⟨2, some 14, none, .op .reads (oLen .slice (.tmp 13)), []⟩,
        ⟨3, some 15, none, .op .quiet (oMv (.val (.int .i64 0))), []⟩])
      (.block 0
       (.loop
        (.seq
         (.ops [⟨0, some 16, none, .op .quiet (oArith .lss (.tmp 15) (.tmp 14)), []⟩])
         (.seq
          (.cond (.tmp 16)
           (.skip)
           (.exit 0))
          (.seq
           (.block 1
            (.seq
             (.ops [⟨0, some 17, none, .op .quiet (oMv (.tmp 15)), []⟩,
               ⟨1, some 18, none, .op .quiet (oIdxS 1 (.tmp 13) (.tmp 15)), []⟩,
               ⟨2, some 19, none, .op .reads (oLoad (.tmp 18)), []⟩,
               ⟨3, some 7, none, .op .quiet (oMv (.tmp 17)), []⟩,
               ⟨4, some 8, none, .op .quiet (oMv (.tmp 19)), []⟩])
             (.seq
              (.seq
               (.ops [⟨0, some 20, none, .op .quiet (oMv (.tmp 8)), []⟩,
                 ⟨1, some 21, none, .op .quiet (oArith .lss (.tmp 20) (.val (.int .i64 0))), []⟩,
                 ⟨2, some 22, none, .op .quiet (oMv (.tmp 21)), []⟩,
                 ⟨3, some 23, some (22, false), .op .quiet (oMv (.tmp 8)), []⟩,
                 ⟨4, some 24, some (22, false), .op .quiet (oFieldAddr 0 (.tmp 2)), []⟩,
                 ⟨5, some 25, some (22, false), .op .reads (oLoad (.tmp 24)), []⟩,
                 ⟨6, some 26, some (22, false), .op .quiet (oArith .geq (.tmp 23) (.tmp 25)), []⟩,
                 ⟨7, some 27, none, .op .quiet (oPick (.tmp 22) (.val (.bool true)) (.tmp 26)), []⟩,
                 ⟨8, some 28, none, .op .quiet (oMv (.tmp 27)), []⟩,
                 ⟨9, some 29, some (28, false), .op .quiet (oMv (.tmp 6)), []⟩,
                 ⟨10, some 30, some (28, false), .op .quiet (oMv (.tmp 8)), []⟩,
                 ⟨11, some 31, some (28, false), .op .quiet (oIdxS 1 (.tmp 29) (.tmp 30)), []⟩,
                 ⟨12, some 32, some (28, false), .op .reads (oLoad (.tmp 31)), []⟩,
                 ⟨13, some 33, some (28, false), .op .quiet (oArith .geq (.tmp 32) (.val (.int .i64 0))), []⟩,
                 ⟨14, some 34, none, .op .quiet (oPick (.tmp 28) (.val (.bool true)) (.tmp 33)), []⟩])
               (.cond (.tmp 34)
                (.seq
                 (.ops [⟨0, some 4, none, .op .quiet (oMv (.val (.slice none 0 0))), []⟩,
                   ⟨1, some 5, none, .op .quiet (oMv (.val (.bool false))), []⟩])
                 (.ret))
                (.skip)))
              (.ops [⟨0, some 35, none, .op .quiet (oMv (.tmp 6)), []⟩,
                ⟨1, some 36, none, .op .quiet (oMv (.tmp 8)), []⟩,
                ⟨2, some 37, none, .op .quiet (oMv (.tmp 7)), []⟩,
                ⟨3, some 38, none, .op .quiet (oIdxS 1 (.tmp 35) (.tmp 36)), []⟩,
                ⟨4, none, none, .op .hard (oStore 1 (.tmp 38) (.tmp 37)), []⟩]))))
           (.ops [⟨0, some 39, none, .op .quiet (oArith .add (.tmp 15) (.val (.int .i64 1))), []⟩,
             ⟨1, some 15, none, .op .quiet (oMv (.tmp 39)), []⟩])))))))
     (.seq
      (.ops [⟨0, some 40, none, .op .quiet (oMv (.tmp 6)), []⟩,
        ⟨1, some 4, none, .op .quiet (oMv (.tmp 40)), []⟩,
        ⟨2, some 5, none, .op .quiet (oMv (.val (.bool true))), []⟩])
      (.ret)))))⟩
/-- tangram/dfs.hangs -/
noncomputable def a286 : AF := ⟨[.tmp 6],
 (.seq
   (.ops [⟨0, some 3, none, .op .quiet (oBox (.tmp 0)), []⟩,
     ⟨1, some 4, none, .op .quiet (oBox (.tmp 1)), []⟩,
     ⟨2, some 6, none, .op .quiet (oMv (.val (.bool false))), []⟩])
   (.seq
    (.ops [⟨0, some 10, none, .op .quiet (oFieldAddr 0 (.tmp 4)), []⟩,
      ⟨1, some 11, none, .op .reads (oLoad (.tmp 10)), []⟩,
      ⟨2, some 12, none, .op .quiet (oMv (.tmp 2)), []⟩,
      ⟨3, some 13, none, .op .quiet (oIdxS 1 (.tmp 11) (.tmp 12)), []⟩,
      ⟨4, some 14, none, .op .reads (oLoad (.tmp 13)), []⟩,
      ⟨5, some 7, none, .op .quiet (oMv (.tmp 14)), []⟩])
    (.seq
     (.seq
      (.ops [⟨0, some 15, none, .op .quiet (oMv (.tmp 7)), []⟩,
        ⟨1, some 16, none, .op .quiet (oArith .eql (.tmp 15) (.val (.int .i64 (-1)))), []⟩])
      (.cond (.tmp 16)
       (.seq
        (.ops [⟨0, some 17, none, .op .quiet (oFieldAddr 1 (.tmp 4)), []⟩,
          ⟨1, some 18, none, .op .reads (oLoad (.tmp 17)), []⟩,
          ⟨2, some 19, none, .op .quiet (oMv (.tmp 2)), []⟩,
          ⟨3, some 20, none, .op .quiet (oIdxS 1 (.tmp 18) (.tmp 19)), []⟩,
          ⟨4, some 21, none, .op .reads (oLoad (.tmp 20)), []⟩,
          ⟨5, some 22, none, .op .quiet (oArith .eql (.tmp 21) (.val (.int .i64 0))), []⟩,
          ⟨6, some 6, none, .op .quiet (oMv (.tmp 22)), []⟩])
        (.ret))
       (.skip)))
     (.seq
      (.seq
       (.ops [⟨0, some 23, none, .op .quiet (oMv (.tmp 7)), []⟩,
         ⟨1, some 24, none, .op .quiet (oArith .lss (.tmp 23) (.val (.int .i64 0))), []⟩,
         ⟨2, some 25, none, .op .quiet (oMv (.tmp 24)), []⟩,
         ⟨3, some 26, some (25, false), .op .quiet (oMv (.tmp 7)), []⟩,
         ⟨4, some 27, some (25, false), .op .quiet (oFieldAddr 1 (.tmp 3)), []⟩,
         ⟨5, some 28, some (25, false), .op .reads (oLoad (.tmp 27)), []⟩,
         ⟨6, some 29, some (25, false), .op .reads (oLen .slice (.tmp 28)), []⟩,
         ⟨7, some 30, some (25, false), .op .quiet (oArith .mul (.val (.int .i64 2)) (.tmp 29)), []⟩,
         ⟨8, some 31, some (25, false), .op .quiet (oArith .geq (.tmp 26) (.tmp 30)), []⟩,
         ⟨9, some 32, none, .op .quiet (oPick (.tmp 25) (.val (.bool true)) (.tmp 31)), []⟩,
         ⟨10, some 33, none, .op .quiet (oMv (.tmp 32)), []⟩,
         ⟨11, some 34, some (33, false), .op .quiet (oFieldAddr 3 (.tmp 4)), []⟩,
         ⟨12, some 35, some (33, false), .op .reads (oLoad (.tmp 34)), []⟩,
         ⟨13, some 36, some (33, false), .op .quiet (oMv (.tmp 7)), []⟩,
         ⟨14, some 37, some (33, false), .op .quiet (oArith .quo (.tmp 36) (.val (.int .i64 2))), []⟩,
         ⟨15, some 38, some (33, false), .op .quiet (oIdxS 1 (.tmp 35) (.tmp 37)), []⟩,
         ⟨16, some 39, some (33, false), .op .reads (oLoad (.tmp 38)), []⟩,
         ⟨17, some 40, some (33, false), .op .quiet (oMv (.tmp 7)), []⟩,
         ⟨18, some 41, some (33, false), .op .quiet (oArith .neq (.tmp 39) (.tmp 40)), []⟩,
         ⟨19, some 42, none, .op .quiet (oPick (.tmp 33) (.val (.bool true)) (.tmp 41)), []⟩])
       (.cond (.tmp 42)
        (.seq
         (.ops [⟨0, some 6, none, .op .quiet (oMv (.val (.bool false))), []⟩])
         (.ret))
        (.skip)))
      (.seq
       (.ops [⟨0, some 44, none, .op .reads (oLoadN 2 (.tmp 3)), []⟩,
         ⟨1, some 45, none, .op .quiet (oMv (.tmp 7)), []⟩,
         ⟨2, some 46, none, .callF 287 [(.tmp 44), (.tmp 45)], []⟩,
         ⟨3, some 43, none, .op .quiet (oMv (.tmp 46)), []⟩,
         ⟨4, some 47, none, .op .quiet (oExtract 0 (.tmp 43)), []⟩,
         ⟨5, some 48, none, .op .quiet (oExtract 1 (.tmp 43)), []⟩,
         ⟨6, some 8, none, .op .quiet (oMv (.tmp 47)), []⟩,
         ⟨7, some 9, none, .op .quiet (oMv (.tmp 48)), []⟩])
       (.seq
        (.drawn [⟨0, some 49, none, .op .quiet (oMv (.tmp 9)), []⟩,
          ⟨1, some 50, none, .op .quiet (oMv (.tmp 2)), []⟩,
          ⟨2, some 51, none, .op .quiet (oArith .eql (.tmp 49) (.tmp 50)), []⟩,
          ⟨3, some 52, none, .op .quiet (oMv (.tmp 51)), []⟩,
          ⟨4, some 53, some (52, true), .op .quiet (oFieldAddr 1 (.tmp 4)), []⟩,
          ⟨5, some 54, some (52, true), .op .reads (oLoad (.tmp 53)), []⟩,
          ⟨6, some 55, some (52, true), .op .quiet (oMv (.tmp 2)), []⟩,
          ⟨7, some 56, some (52, true), .op .quiet (oIdxS 1 (.tmp 54) (.tmp 55)), []⟩,
          ⟨8, some 57, some (52, true), .op .reads (oLoad (.tmp 56)), []⟩,
          ⟨9, some 58, some (52, true), .op .quiet (oFieldAddr 1 (.tmp 4)), []⟩,
          ⟨10, some 59, some (52, true), .op .reads (oLoad (.tmp 58)), []⟩,
          ⟨11, some 60, some (52, true), .op .quiet (oMv (.tmp 8)), []⟩,
          ⟨12, some 61, some (52, true), .op .quiet (oIdxS 1 (.tmp 59) (.tmp 60)), []⟩,
          ⟨13, some 62, some (52, true), .op .reads (oLoad (.tmp 61)), []⟩,
          ⟨14, some 63, some (52, true), .op .quiet (oArith .add (.tmp 62) (.val (.int .i64 1))), []⟩,
          ⟨15, some 64, some (52, true), .op .quiet (oArith .eql (.tmp 57) (.tmp 63)), []⟩,
          ⟨16, some 65, none, .op .quiet (oPick (.tmp 52) (.tmp 64) (.val (.bool false))), []⟩,
          ⟨17, some 6, none, .op .quiet (oMv (.tmp 65)), []⟩])
        (.ret)))))))⟩
/-- tangram/dfs.ends -/
noncomputable def a287 : AF := ⟨[.tmp 4, .tmp 5],
 (.seq
   (.ops [⟨0, some 2, none, .op .quiet (oBox (.tmp 0)), []⟩,
     ⟨1, some 4, none, .op .quiet (oMv (.val (.int .i64 0))), []⟩,
     ⟨2, some 5, none, .op .quiet (oMv (.val (.int .i64 0))), []⟩])
   (.seq
    (.ops [⟨0, some 7, none, .op .quiet (oFieldAddr 1 (.tmp 2)), []⟩,
      ⟨1, some 8, none, .op .reads (oLoad (.tmp 7)), []⟩,
      ⟨2, some 9, none, .op .quiet (oMv (.tmp 1)), []⟩,
      ⟨3, some 10, none, .op .quiet (oArith .quo (.tmp 9) (.val (.int .i64 2))), []⟩,
      ⟨4, some 11, none, .op .quiet (oIdxS 2 (.tmp 8) (.tmp 10)), []⟩,
      ⟨5, some 12, none, .op .reads (oLoadN 2 (.tmp 11)), []⟩,
      ⟨6, some 6, none, .op .quiet (oAlloc [(.int .i64 0), (.int .i64 0)]), []⟩,
      ⟨7, none, none, .op .hard (oStore 2 (.tmp 6) (.tmp 12)), []⟩])
    (.seq
     (.seq
      (.ops [⟨0, some 13, none, .op .quiet (oMv (.tmp 1)), []⟩,
        ⟨1, some 14, none, .op .quiet (oArith .rem (.tmp 13) (.val (.int .i64 2))), []⟩,
        ⟨2, some 15, none, .op .quiet (oArith .eql (.tmp 14) (.val (.int .i64 0))), []⟩])
      (.cond (.tmp 15)
       (.seq
        (.drawn [⟨0, some 16, none, .op .quiet (oFieldAddr 0 (.tmp 6)), []⟩,
          ⟨1, some 17, none, .op .reads (oLoad (.tmp 16)), []⟩,
          ⟨2, some 18, none, .op .quiet (oFieldAddr 1 (.tmp 6)), []⟩,
          ⟨3, some 19, none, .op .reads (oLoad (.tmp 18)), []⟩,
          ⟨4, some 4, none, .op .quiet (oMv (.tmp 17)), []⟩,
          ⟨5, some 5, none, .op .quiet (oMv (.tmp 19)), []⟩])
        (.ret))
       (.skip)))
     (.seq
      (.drawn [⟨0, some 20, none, .op .quiet (oFieldAddr 1 (.tmp 6)), []⟩,
        ⟨1, some 21, none, .op .reads (oLoad (.tmp 20)), []⟩,
        ⟨2, some 22, none, .op .quiet (oFieldAddr 0 (.tmp 6)), []⟩,
        ⟨3, some 23, none, .op .reads (oLoad (.tmp 22)), []⟩,
        ⟨4, some 4, none, .op .quiet (oMv (.tmp 21)), []⟩,
        ⟨5, some 5, none, .op .quiet (oMv (.tmp 23)), []⟩])
      (.ret)))))⟩
/-- (*tangram/embed.ring).ends -/
noncomputable def a288 : AF := ⟨[.tmp 4, .tmp 5],
 (.seq
   (.ops [⟨0, some 4, none, .op .quiet (oMv (.val (.int .i64 0))), []⟩,
     ⟨1, some 5, none, .op .quiet (oMv (.val (.int .i64 0))), []⟩])
   (.seq
    (.ops [⟨0, some 7, none, .op .quiet (oMv (.tmp 0)), []⟩,
      ⟨1, some 8, none, .op .quiet (oNilCheck (.tmp 7)), []⟩,
      ⟨2, some 9, none, .op .quiet (oFieldAddr 0 (.tmp 8)), []⟩,
      ⟨3, some 10, none, .op .quiet (oFieldAddr 1 (.tmp 9)), []⟩,
      ⟨4, some 11, none, .op .reads (oLoad (.tmp 10)), []⟩,
      ⟨5, some 12, none, .op .quiet (oMv (.tmp 1)), []⟩,
      ⟨6, some 13, none, .op .quiet (oArith .quo (.tmp 12) (.val (.int .i64 2))), []⟩,
      ⟨7, some 14, none, .op .quiet (oIdxS 2 (.tmp 11) (.tmp 13)), []⟩,
      ⟨8, some 15, none, .op .reads (oLoadN 2 (.tmp 14)), []⟩,
      ⟨9, some 6, none, .op .quiet (oAlloc [(.int .i64 0), (.int .i64 0)]), []⟩,
      ⟨10, none, none, .op .hard (oStore 2 (.tmp 6) (.tmp 15)), []⟩])
    (.seq
     (.seq
      (.ops [⟨0, some 16, none, .op .quiet (oMv (.tmp 1)), []⟩,
        ⟨1, some 17, none, .op .quiet (oArith .rem (.tmp 16) (.val (.int .i64 2))), []⟩,
        ⟨2, some 18, none, .op .quiet (oArith .eql (.tmp 17) (.val (.int .i64 0))), []⟩])
      (.cond (.tmp 18)
       (.seq
        (.drawn [⟨0, some 19, none, .op .quiet (oFieldAddr 0 (.tmp 6)), []⟩,
          ⟨1, some 20, none, .op .reads (oLoad (.tmp 19)), []⟩,
          ⟨2, some 21, none, .op .quiet (oFieldAddr 1 (.tmp 6)), []⟩,
          ⟨3, some 22, none, .op .reads (oLoad (.tmp 21)), []⟩,
          ⟨4, some 4, none, .op .quiet (oMv (.tmp 20)), []⟩,
          ⟨5, some 5, none, .op .quiet (oMv (.tmp 22)), []⟩])
        (.ret))
       (.skip)))
     (.seq
      (.drawn [⟨0, some 23, none, .op .quiet (oFieldAddr 1 (.tmp 6)), []⟩,
        ⟨1, some 24, none, .op .reads (oLoad (.tmp 23)), []⟩,
        ⟨2, some 25, none, .op .quiet (oFieldAddr 0 (.tmp 6)), []⟩,
        ⟨3, some 26, none, .op .reads (oLoad (.tmp 25)), []⟩,
        ⟨4, some 4, none, .op .quiet (oMv (.tmp 24)), []⟩,
        ⟨5, some 5, none, .op .quiet (oMv (.tmp 26)), []⟩])
      (.ret)))))⟩
/-- (*tangram/embed.ring).ahead -/
noncomputable def a289 : AF := ⟨[],
 (.ops [⟨0, some 6, none, .op .quiet (oMv (.tmp 0)), []⟩,
    ⟨1, some 7, none, .op .quiet (oMv (.tmp 0)), []⟩,
    ⟨2, some 8, none, .op .quiet (oNilCheck (.tmp 7)), []⟩,
    ⟨3, some 9, none, .op .quiet (oFieldAddr 7 (.tmp 8)), []⟩,
    ⟨4, some 10, none, .op .reads (oLoad (.tmp 9)), []⟩,
    ⟨5, some 11, none, .op .quiet (oMv (.tmp 1)), []⟩,
    ⟨6, some 12, none, .op .quiet (oIdxS 1 (.tmp 10) (.tmp 11)), []⟩,
    ⟨7, some 13, none, .op .reads (oLoad (.tmp 12)), []⟩,
    ⟨8, some 14, none, .op .quiet (oMv (.tmp 2)), []⟩,
    ⟨9, some 15, none, .callF 330 [(.tmp 6), (.tmp 13), (.tmp 14)], []⟩])⟩
/-- (*tangram/embed.ring).inner -/
noncomputable def a290 : AF := ⟨[],
 (.ops [⟨0, some 6, none, .op .quiet (oMv (.tmp 0)), []⟩,
    ⟨1, some 7, none, .op .quiet (oMv (.tmp 0)), []⟩,
    ⟨2, some 8, none, .op .quiet (oNilCheck (.tmp 7)), []⟩,
    ⟨3, some 9, none, .op .quiet (oFieldAddr 10 (.tmp 8)), []⟩,
    ⟨4, some 10, none, .op .reads (oLoad (.tmp 9)), []⟩,
    ⟨5, some 11, none, .op .quiet (oMv (.tmp 1)), []⟩,
    ⟨6, some 12, none, .op .quiet (oIdxS 1 (.tmp 10) (.tmp 11)), []⟩,
    ⟨7, some 13, none, .op .reads (oLoad (.tmp 12)), []⟩,
    ⟨8, some 14, none, .op .quiet (oMv (.tmp 2)), []⟩,
    ⟨9, some 15, none, .callF 330 [(.tmp 6), (.tmp 13), (.tmp 14)], []⟩])⟩
/-- (*tangram/embed.ring).outer -/
noncomputable def a291 : AF := ⟨[],
 (.seq
   (.ops [⟨0, some 6, none, .op .quiet (oMv (.tmp 0)), []⟩,
     ⟨1, some 7, none, .op .quiet (oMv (.tmp 0)), []⟩,
     ⟨2, some 8, none, .op .quiet (oNilCheck (.tmp 7)), []⟩,
     ⟨3, some 9, none, .op .quiet (oFieldAddr 9 (.tmp 8)), []⟩,
     ⟨4, some 10, none, .op .reads (oLoad (.tmp 9)), []⟩,
     ⟨5, some 11, none, .op .quiet (oMv (.tmp 1)), []⟩,
     ⟨6, some 12, none, .op .quiet (oIdxS 1 (.tmp 10) (.tmp 11)), []⟩,
     ⟨7, some 13, none, .op .reads (oLoad (.tmp 12)), []⟩,
     ⟨8, some 14, none, .op .quiet (oMv (.tmp 2)), []⟩,
     ⟨9, some 15, none, .callF 289 [(.tmp 6), (.tmp 13), (.tmp 14)], []⟩])
   (.ops [⟨0, some 16, none, .op .quiet (oMv (.tmp 0)), []⟩,
     ⟨1, some 17, none, .op .quiet (oNilCheck (.tmp 16)), []⟩,
     ⟨2, some 18, none, .op .quiet (oFieldAddr 9 (.tmp 17)), []⟩,
     ⟨3, some 19, none, .op .reads (oLoad (.tmp 18)), []⟩,
     ⟨4, some 20, none, .op .quiet (oMv (.tmp 1)), []⟩,
     ⟨5, some 21, none, .op .quiet (oMv (.tmp 2)), []⟩,
     ⟨6, some 22, none, .op .quiet (oIdxS 1 (.tmp 19) (.tmp 20)), []⟩,
     ⟨7, none, none, .op .hard (oStore 1 (.tmp 22) (.tmp 21)), []⟩]))⟩
/-- slices.Backward[[]int,int]$1 -/
noncomputable def a294 : AF := ⟨[],
 (.seq
   (.ops [⟨0, some 4, none, .op .reads (oLoad (.tmp 1)), []⟩,
     ⟨1, some 5, none, .op .reads (oLen .slice (.tmp 4)), []⟩,
     ⟨2, some 6, none, .op .quiet (oArith .sub (.tmp 5) (.val (.int .i64 1))), []⟩,
     ⟨3, some 3, none, .op .quiet (oMv (.tmp 6)), []⟩])
   (.block 0
    (.loop
     (.seq
      (.seq
       (.ops [⟨0, some 7, none, .op .quiet (oMv (.tmp 3)), []⟩,
         ⟨1, some 8, none, .op .quiet (oArith .geq (.tmp 7) (.val (.int .i64 0))), []⟩])
       (.cond (.tmp 8)
        (.skip)
        (.exit 0)))
      (.seq
       (.block 1
        (.seq
         (.ops [⟨0, some 11, none, .op .quiet (oMv (.tmp 0)), []⟩,
           ⟨1, some 12, none, .op .quiet (oMv (.tmp 3)), []⟩,
           ⟨2, some 13, none, .op .reads (oLoad (.tmp 1)), []⟩,
           ⟨3, some 14, none, .op .quiet (oMv (.tmp 3)), []⟩,
           ⟨4, some 15, none, .op .quiet (oIdxS 1 (.tmp 13) (.tmp 14)), []⟩,
           ⟨5, some 16, none, .op .reads (oLoad (.tmp 15)), []⟩,
           ⟨6, some 17, none, .call (.tmp 11) [(.tmp 12), (.tmp 16)], []⟩,
           ⟨7, some 18, none, .op .quiet (oNot (.tmp 17)), []⟩])
         (.cond (.tmp 18)
          (.ret)
          (.skip))))
       (.ops [⟨0, some 9, none, .op .quiet (oMv (.tmp 3)), []⟩,
         ⟨1, some 10, none, .op .quiet (oArith .sub (.tmp 9) (.val (.int .i64 1))), []⟩,
         ⟨2, some 3, none, .op .quiet (oMv (.tmp 10)), []⟩]))))))⟩
/-- tangram/low.lowest$1 -/
noncomputable def a295 : AF := ⟨[],
 (.block 0
   (.seq
    (.ops [⟨0, some 5, none, .op .quiet (oMv (.tmp 0)), []⟩,
      ⟨1, some 6, none, .op .reads (oLoad (.tmp 1)), []⟩,
      ⟨2, some 7, none, .op .quiet (oArith .lss (.tmp 5) (.tmp 6)), []⟩,
      ⟨3, some 4, none, .op .quiet (oMv (.tmp 7)), []⟩])
    (.cond (.tmp 4)
     (.ops [⟨0, some 8, none, .op .quiet (oMv (.tmp 0)), []⟩,
       ⟨1, some 9, none, .op .reads (oLoad (.tmp 1)), []⟩,
       ⟨2, none, none, .op .hard (oStore 1 (.tmp 1) (.tmp 8)), []⟩,
       ⟨3, none, none, .op .hard (oStore 1 (.tmp 2) (.tmp 9)), []⟩])
     (.seq
      (.ops [⟨0, some 11, none, .op .quiet (oMv (.tmp 0)), []⟩,
        ⟨1, some 12, none, .op .reads (oLoad (.tmp 1)), []⟩,
        ⟨2, some 13, none, .op .quiet (oArith .gtr (.tmp 11) (.tmp 12)), []⟩,
        ⟨3, some 14, none, .op .quiet (oMv (.tmp 13)), []⟩,
        ⟨4, some 15, some (14, true), .op .quiet (oMv (.tmp 0)), []⟩,
        ⟨5, some 16, some (14, true), .op .reads (oLoad (.tmp 2)), []⟩,
        ⟨6, some 17, some (14, true), .op .quiet (oArith .lss (.tmp 15) (.tmp 16)), []⟩,
        ⟨7, some 18, none, .op .quiet (oPick (.tmp 14) (.tmp 17) (.val (.bool false))), []⟩,
        ⟨8, some 10, none, .op .quiet (oMv (.tmp 18)), []⟩])
      (.cond (.tmp 10)
       (.ops [⟨0, some 19, none, .op .quiet (oMv (.tmp 0)), []⟩,
         ⟨1, none, none, .op .hard (oStore 1 (.tmp 2) (.tmp 19)), []⟩])
       (.skip))))))⟩
/-- tangram/low.lowest$2 -/
noncomputable def a296 : AF := ⟨[.tmp 2, .tmp 3],
 (.seq
   (.ops [⟨0, some 2, none, .op .quiet (oMv (.val (.int .i64 0))), []⟩,
     ⟨1, some 3, none, .op .quiet (oMv (.val (.int .i64 0))), []⟩])
   (.seq
    (.drawn [⟨0, some 4, none, .op .reads (oLoad (.tmp 0)), []⟩,
      ⟨1, some 5, none, .op .reads (oLoad (.tmp 1)), []⟩,
      ⟨2, some 2, none, .op .quiet (oMv (.tmp 4)), []⟩,
      ⟨3, some 3, none, .op .quiet (oMv (.tmp 5)), []⟩])
    (.ret)))⟩
/-- slices.Collect[int] -/
noncomputable def a297 : AF := ⟨[.tmp 2],
 (.seq
   (.ops [⟨0, some 2, none, .op .quiet (oMv (.val (.slice none 0 0))), []⟩])
   (.seq
    (.ops [⟨0, some 3, none, .op .quiet (oMv (.tmp 0)), []⟩,
      ⟨1, some 4, none, .callF 331 [(.val (.slice none 0 0)), (.tmp 3)], []⟩,
      ⟨2, some 2, none, .op .quiet (oMv (.tmp 4)), []⟩])
    (.ret)))⟩
/-- slices.Sort[[]int,int] -/
noncomputable def a298 : AF := ⟨[],
 (.seq
   (.ops [⟨0, some 3, none, .op .quiet (oMv (.tmp 0)), []⟩,
     ⟨1, some 4, none, .op .reads (oLen .slice (.tmp 3)), []⟩,
     ⟨2, some 2, none, .op .quiet (oMv (.tmp 4)), []⟩])
   (.ops [⟨0, some 5, none, .op .quiet (oMv (.tmp 0)), []⟩,
     ⟨1, some 6, none, .op .quiet (oMv (.tmp 2)), []⟩,
     ⟨2, some 7, none, .op .quiet (oMv (.tmp 2)), []⟩,
     ⟨3, some 8, none, .op .quiet (oConv .u64 (.tmp 7)), []⟩,
     ⟨4, some 9, none, .callF 307 [(.tmp 8)], []⟩,
     ⟨5, some 10, none, .callF 332 [(.tmp 5), (.val (.int .i64 0)), (.tmp 6), (.tmp 9)], []⟩]))⟩
/-- slices.Values[[]int,int]$1 -/
noncomputable def a299 : AF := ⟨[],
 (.seq
   (.ops [⟨0, some 5, none, .op .reads (oLoad (.tmp 1)), []⟩,
     ⟨1, some 6, none, .op .reads (oLen .slice (.tmp 5)), []⟩,
     ⟨2, some 7, none, .op .quiet (oMv (.val (.int .i64 0))), []⟩])
   (.block 0
    (.loop
     (.seq
      (.ops [⟨0, some 8, none, .op .quiet (oArith .lss (.tmp 7) (.tmp 6)), []⟩])
      (.seq
       (.cond (.tmp 8)
        (.skip)
        (.exit 0))
       (.seq
        (.block 1
         (.seq
          (.ops [⟨0, some 9, none, .op .quiet (oIdxS 1 (.tmp 5) (.tmp 7)), []⟩,
            ⟨1, some 10, none, .op .reads (oLoad (.tmp 9)), []⟩,
            ⟨2, some 4, none, .op .quiet (oMv (.tmp 10)), []⟩])
          (.seq
           (.ops [⟨0, some 11, none, .op .quiet (oMv (.tmp 0)), []⟩,
             ⟨1, some 12, none, .op .quiet (oMv (.tmp 4)), []⟩,
             ⟨2, some 13, none, .call (.tmp 11) [(.tmp 12)], []⟩,
             ⟨3, some 14, none, .op .quiet (oNot (.tmp 13)), []⟩])
           (.cond (.tmp 14)
            (.ret)
            (.skip)))))
        (.ops [⟨0, some 15, none, .op .quiet (oArith .add (.tmp 7) (.val (.int .i64 1))), []⟩,
          ⟨1, some 7, none, .op .quiet (oMv (.tmp 15)), []⟩])))))))⟩
/-- tangram/bucket.ranks -/
noncomputable def a300 : AF := ⟨[.tmp 2],
 (.seq
   (.ops [⟨0, some 2, none, .op .quiet (oMv (.val (.slice none 0 0))), []⟩])
   (.seq
    (.ops [⟨0, some 3, none, .op .quiet (oMv (.val (.int .i64 0))), []⟩])
    (.seq
     (.seq
      (.ops [⟨0, some 13, none, .op .quiet (oMv (.tmp 0)), []⟩,
        ⟨1, some 14, none, .op .reads (oLen .slice (.tmp 13)), []⟩,
        ⟨2, some 15, none, .op .quiet (oMv (.val (.int .i64 0))), []⟩])
      (.block 0
       (.loop
        (.seq
         (.ops [⟨0, some 16, none, .op .quiet (oArith .lss (.tmp 15) (.tmp 14)), []⟩])
         (.seq
          (.cond (.tmp 16)
           (.skip)
           (.exit 0))
          (.seq
           (.block 1
            (.seq
             (.ops [⟨0, some 17, none, .op .quiet (oIdxS 1 (.tmp 13) (.tmp 15)), []⟩,
               ⟨1, some 18, none, .op .reads (oLoad (.tmp 17)), []⟩,
               ⟨2, some 5, none, .op .quiet (oMv (.tmp 18)), []⟩])
             (.ops [⟨0, some 19, none, .op .quiet (oMv (.tmp 3)), []⟩,
               ⟨1, some 20, none, .op .quiet (oMv (.tmp 5)), []⟩,
               ⟨2, some 21, none, .op .quiet (oMax (.tmp 19) [(.tmp 20)]), []⟩,
               ⟨3, some 3, none, .op .quiet (oMv (.tmp 21)), []⟩])))
           (.ops [⟨0, some 22, none, .op .quiet (oArith .add (.tmp 15) (.val (.int .i64 1))), []⟩,
             ⟨1, some 15, none, .op .quiet (oMv (.tmp 22)), []⟩])))))))
     (.seq
      (.seq
       (.ops [⟨0, some 23, none, .op .quiet (oMv (.tmp 0)), []⟩,
         ⟨1, some 24, none, .op .reads (oLen .slice (.tmp 23)), []⟩,
         ⟨2, some 25, none, .op .quiet (oArith .eql (.tmp 24) (.val (.int .i64 0))), []⟩])
       (.cond (.tmp 25)
        (.seq
         (.ops [⟨0, some 2, none, .op .quiet (oMv (.val (.slice none 0 0))), []⟩])
         (.ret))
        (.skip)))
      (.seq
       (.ops [⟨0, some 26, none, .op .quiet (oMv (.tmp 3)), []⟩,
         ⟨1, some 27, none, .op .quiet (oArith .add (.tmp 26) (.val (.int .i64 2))), []⟩,
         ⟨2, some 28, none, .op .quiet (oMkSlice 1 8 [(.int .i64 0)] (.tmp 27) (.tmp 27)), []⟩,
         ⟨3, some 6, none, .op .quiet (oMv (.tmp 28)), []⟩])
       (.seq
        (.seq
         (.ops [⟨0, some 29, none, .op .quiet (oMv (.tmp 0)), []⟩,
           ⟨1, some 30, none, .op .reads (oLen .slice (.tmp 29)), []⟩,
           ⟨2, some 31, none, .op .quiet (oMv (.val (.int .i64 0))), []⟩])
         (.block 2
          (.loop
           (.seq
            (.ops [⟨0, some 32, none, .op .quiet (oArith .lss (.tmp 31) (.tmp 30)), []⟩])
            (.seq
             (.cond (.tmp 32)
              (.skip)
              (.exit 2))
             (.seq
              (.block 3
               (.seq
                (.ops [⟨0, some 33, none, .op .quiet (oIdxS 1 (.tmp 29) (.tmp 31)), []⟩,
                  ⟨1, some 34, none, .op .reads (oLoad (.tmp 33)), []⟩,
                  ⟨2, some 8, none, .op .quiet (oMv (.tmp 34)), []⟩])
                (.ops [⟨0, some 35, none, .op .quiet (oMv (.tmp 6)), []⟩,
                  ⟨1, some 36, none, .op .quiet (oMv (.tmp 8)), []⟩,
                  ⟨2, some 37, none, .op .quiet (oArith .add (.tmp 36) (.val (.int .i64 1))), []⟩,
                  ⟨3, some 38, none, .op .quiet (oIdxS 1 (.tmp 35) (.tmp 37)), []⟩,
                  ⟨4, some 39, none, .op .reads (oLoad (.tmp 38)), []⟩,
                  ⟨5, some 40, none, .op .quiet (oArith .add (.tmp 39) (.val (.int .i64 1))), []⟩,
                  ⟨6, some 41, none, .op .quiet (oIdxS 1 (.tmp 35) (.tmp 37)), []⟩,
                  ⟨7, none, none, .op .hard (oStore 1 (.tmp 41) (.tmp 40)), []⟩])))
              (.ops [⟨0, some 42, none, .op .quiet (oArith .add (.tmp 31) (.val (.int .i64 1))), []⟩,
                ⟨1, some 31, none, .op .quiet (oMv (.tmp 42)), []⟩])))))))
        (.seq
         (.seq
          (.ops [⟨0, some 43, none, .op .quiet (oMv (.tmp 3)), []⟩,
            ⟨1, some 44, none, .op .quiet (oMv (.val (.int .i64 0))), []⟩])
          (.block 4
           (.loop
            (.seq
             (.ops [⟨0, some 45, none, .op .quiet (oArith .lss (.tmp 44) (.tmp 43)), []⟩])
             (.seq
              (.cond (.tmp 45)
               (.skip)
               (.exit 4))
              (.seq
               (.block 5
                (.seq
                 (.ops [⟨0, some 46, none, .op .quiet (oMv (.tmp 44)), []⟩,
                   ⟨1, some 9, none, .op .quiet (oMv (.tmp 46)), []⟩])
                 (.drawn [⟨0, some 47, none, .op .quiet (oMv (.tmp 6)), []⟩,
                   ⟨1, some 48, none, .op .quiet (oMv (.tmp 9)), []⟩,
                   ⟨2, some 49, none, .op .quiet (oArith .add (.tmp 48) (.val (.int .i64 1))), []⟩,
                   ⟨3, some 50, none, .op .quiet (oIdxS 1 (.tmp 47) (.tmp 49)), []⟩,
                   ⟨4, some 51, none, .op .reads (oLoad (.tmp 50)), []⟩,
                   ⟨5, some 52, none, .op .quiet (oMv (.tmp 6)), []⟩,
                   ⟨6, some 53, none, .op .quiet (oMv (.tmp 9)), []⟩,
                   ⟨7, some 54, none, .op .quiet (oIdxS 1 (.tmp 52) (.tmp 53)), []⟩,
                   ⟨8, some 55, none, .op .reads (oLoad (.tmp 54)), []⟩,
                   ⟨9, some 56, none, .op .quiet (oArith .add (.tmp 51) (.tmp 55)), []⟩,
                   ⟨10, some 57, none, .op .quiet (oIdxS 1 (.tmp 47) (.tmp 49)), []⟩,
                   ⟨11, none, none, .op .hard (oStore 1 (.tmp 57) (.tmp 56)), []⟩])))
               (.ops [⟨0, some 58, none, .op .quiet (oArith .add (.tmp 44) (.val (.int .i64 1))), []⟩,
                 ⟨1, some 44, none, .op .quiet (oMv (.tmp 58)), []⟩])))))))
         (.seq
          (.ops [⟨0, some 59, none, .op .quiet (oMv (.tmp 0)), []⟩,
            ⟨1, some 60, none, .op .reads (oLen .slice (.tmp 59)), []⟩,
            ⟨2, some 61, none, .op .quiet (oMkSlice 1 8 [(.int .i64 0)] (.tmp 60) (.tmp 60)), []⟩,
            ⟨3, some 10, none, .op .quiet (oMv (.tmp 61)), []⟩])
          (.seq
           (.seq
            (.ops [⟨0, some 62, none, .op .quiet (oMv (.tmp 0)), []⟩,
              ⟨1, some 63, none, .op .reads (oLen .slice (.tmp 62)), []⟩,
              ⟨2, some 64, none, .op .quiet (oMv (.val (.int .i64 0))), []⟩])
            (.block 6
             (.loop
              (.seq
               (.ops [⟨0, some 65, none, .op .quiet (oArith .lss (.tmp 64) (.tmp 63)), []⟩])
               (.seq
                (.cond (.tmp 65)
                 (.skip)
                 (.exit 6))
                (.seq
                 (.block 7
                  (.seq
                   (.ops [⟨0, some 66, none, .op .quiet (oMv (.tmp 64)), []⟩,
                     ⟨1, some 67, none, .op .quiet (oIdxS 1 (.tmp 62) (.tmp 64)), []⟩,
                     ⟨2, some 68, none, .op .reads (oLoad (.tmp 67)), []⟩,
                     ⟨3, some 11, none, .op .quiet (oMv (.tmp 66)), []⟩,
                     ⟨4, some 12, none, .op .quiet (oMv (.tmp 68)), []⟩])
                   (.seq
                    (.ops [⟨0, some 69, none, .op .quiet (oMv (.tmp 10)), []⟩,
                      ⟨1, some 70, none, .op .quiet (oMv (.tmp 11)), []⟩,
                      ⟨2, some 71, none, .op .quiet (oMv (.tmp 6)), []⟩,
                      ⟨3, some 72, none, .op .quiet (oMv (.tmp 12)), []⟩,
                      ⟨4, some 73, none, .op .quiet (oIdxS 1 (.tmp 71) (.tmp 72)), []⟩,
                      ⟨5, some 74, none, .op .reads (oLoad (.tmp 73)), []⟩,
                      ⟨6, some 75, none, .op .quiet (oIdxS 1 (.tmp 69) (.tmp 70)), []⟩,
                      ⟨7, none, none, .op .hard (oStore 1 (.tmp 75) (.tmp 74)), []⟩])
                    (.ops [⟨0, some 76, none, .op .quiet (oMv (.tmp 6)), []⟩,
                      ⟨1, some 77, none, .op .quiet (oMv (.tmp 12)), []⟩,
                      ⟨2, some 78, none, .op .quiet (oIdxS 1 (.tmp 76) (.tmp 77)), []⟩,
                      ⟨3, some 79, none, .op .reads (oLoad (.tmp 78)), []⟩,
                      ⟨4, some 80, none, .op .quiet (oArith .add (.tmp 79) (.val (.int .i64 1))), []⟩,
                      ⟨5, some 81, none, .op .quiet (oIdxS 1 (.tmp 76) (.tmp 77)), []⟩,
                      ⟨6, none, none, .op .hard (oStore 1 (.tmp 81) (.tmp 80)), []⟩]))))
                 (.ops [⟨0, some 82, none, .op .quiet (oArith .add (.tmp 64) (.val (.int .i64 1))), []⟩,
                   ⟨1, some 64, none, .op .quiet (oMv (.tmp 82)), []⟩])))))))
           (.seq
            (.ops [⟨0, some 83, none, .op .quiet (oMv (.tmp 10)), []⟩,
              ⟨1, some 2, none, .op .quiet (oMv (.tmp 83)), []⟩])
            (.ret)))))))))))⟩
/-- (*tangram/lr.test).constrain -/
noncomputable def a301 : AF := ⟨[.tmp 6],
 (.seq
   (.ops [⟨0, some 6, none, .op .quiet (oMv (.val (.bool false))), []⟩])
   (.seq
    (.ops [⟨0, some 10, none, .op .reads (oLoadN 2 (.val (.pointer (some ⟨0, 0, none⟩)))), []⟩,
      ⟨1, some 11, none, .op .reads (oLoadN 2 (.val (.pointer (some ⟨0, 0, none⟩)))), []⟩,
      ⟨2, some 12, none, .op .quiet (oBuild [(.int .i64 0), (.int .i64 0), (.int .i64 0), (.int .i64 0)] [(0, 2), (2, 2)] [(.tmp 10), (.tmp 11)]), []⟩,
      ⟨3, some 7, none, .op .quiet (oAlloc [(.int .i64 0), (.int .i64 0), (.int .i64 0), (.int .i64 0)]), []⟩,
      ⟨4, none, none, .op .hard (oStore 4 (.tmp 7) (.tmp 12)), []⟩])
    (.seq
     (.block 0
      (.loop
       (.seq
        (.seq
         (.drawn [⟨0, some 13, none, .op .quiet (oMv (.tmp 0)), []⟩,
           ⟨1, some 14, none, .op .quiet (oNilCheck (.tmp 13)), []⟩,
           ⟨2, some 15, none, .op .quiet (oFieldAddr 10 (.tmp 14)), []⟩,
           ⟨3, some 16, none, .op .reads (oLoad (.tmp 15)), []⟩,
           ⟨4, some 17, none, .op .reads (oLen .slice (.tmp 16)), []⟩,
           ⟨5, some 18, none, .op .quiet (oMv (.tmp 0)), []⟩,
           ⟨6, some 19, none, .op .quiet (oNilCheck (.tmp 18)), []⟩,
           ⟨7, some 20, none, .op .quiet (oFieldAddr 13 (.tmp 19)), []⟩,
           ⟨8, some 21, none, .op .reads (oLoad (.tmp 20)), []⟩,
           ⟨9, some 22, none, .op .quiet (oMv (.tmp 1)), []⟩,
           ⟨10, some 23, none, .op .quiet (oIdxS 1 (.tmp 21) (.tmp 22)), []⟩,
           ⟨11, some 24, none, .op .reads (oLoad (.tmp 23)), []⟩,
           ⟨12, some 25, none, .op .quiet (oArith .gtr (.tmp 17) (.tmp 24)), []⟩])
         (.cond (.tmp 25)
          (.skip)
          (.exit 0)))
        (.block 1
         (.seq
          (.ops [⟨0, some 26, none, .op .quiet (oMv (.tmp 0)), []⟩,
            ⟨1, some 27, none, .callF 303 [(.tmp 26)], []⟩,
            ⟨2, some 8, none, .op .quiet (oAlloc [(.int .i64 0), (.int .i64 0), (.int .i64 0), (.int .i64 0)]), []⟩,
            ⟨3, none, none, .op .hard (oStore 4 (.tmp 8) (.tmp 27)), []⟩])
          (.seq
           (.seq
            (.ops [⟨0, some 28, none, .op .quiet (oFieldAddr 0 (.tmp 8)), []⟩,
              ⟨1, some 29, none, .op .reads (oLoadN 2 (.tmp 28)), []⟩,
              ⟨2, some 30, none, .op .reads (oLoadN 2 (.val (.pointer (some ⟨0, 0, none⟩)))), []⟩,
              ⟨3, some 31, none, .op .quiet (oEq true (.ints 2) (.tmp 29) (.tmp 30)), []⟩])
            (.cond (.tmp 31)
             (.ops [⟨0, some 32, none, .op .quiet (oFieldAddr 2 (.tmp 8)), []⟩,
               ⟨1, some 33, none, .op .reads (oLoadN 2 (.tmp 32)), []⟩,
               ⟨2, some 34, none, .op .quiet (oFieldAddr 0 (.tmp 8)), []⟩,
               ⟨3, some 35, none, .op .reads (oLoadN 2 (.tmp 34)), []⟩,
               ⟨4, some 36, none, .op .quiet (oFieldAddr 0 (.tmp 8)), []⟩,
               ⟨5, none, none, .op .hard (oStore 2 (.tmp 36) (.tmp 33)), []⟩,
               ⟨6, some 37, none, .op .quiet (oFieldAddr 2 (.tmp 8)), []⟩,
               ⟨7, none, none, .op .hard (oStore 2 (.tmp 37) (.tmp 35)), []⟩])
             (.skip)))
           (.seq
            (.seq
             (.ops [⟨0, some 38, none, .op .quiet (oFieldAddr 0 (.tmp 8)), []⟩,
               ⟨1, some 39, none, .op .reads (oLoadN 2 (.tmp 38)), []⟩,
               ⟨2, some 40, none, .op .reads (oLoadN 2 (.val (.pointer (some ⟨0, 0, none⟩)))), []⟩,
               ⟨3, some 41, none, .op .quiet (oEq true (.ints 2) (.tmp 39) (.tmp 40)), []⟩])
             (.cond (.tmp 41)
              (.seq
               (.ops [⟨0, some 6, none, .op .quiet (oMv (.val (.bool false))), []⟩])
               (.ret))
              (.skip)))
            (.seq
             (.drawn [⟨0, some 42, none, .op .quiet (oMv (.tmp 0)), []⟩,
               ⟨1, some 43, none, .op .quiet (oNilCheck (.tmp 42)), []⟩,
               ⟨2, some 44, none, .op .quiet (oFieldAddr 6 (.tmp 43)), []⟩,
               ⟨3, some 45, none, .op .quiet (oFieldAddr 0 (.tmp 44)), []⟩,
               ⟨4, some 46, none, .op .reads (oLoad (.tmp 45)), []⟩,
               ⟨5, some 47, none, .op .quiet (oFieldAddr 2 (.tmp 8)), []⟩,
               ⟨6, some 48, none, .op .quiet (oFieldAddr 0 (.tmp 47)), []⟩,
               ⟨7, some 49, none, .op .reads (oLoad (.tmp 48)), []⟩,
               ⟨8, some 50, none, .op .quiet (oIdxS 1 (.tmp 46) (.tmp 49)), []⟩,
               ⟨9, some 51, none, .op .reads (oLoad (.tmp 50)), []⟩,
               ⟨10, some 52, none, .op .quiet (oMv (.tmp 0)), []⟩,
               ⟨11, some 53, none, .op .quiet (oNilCheck (.tmp 52)), []⟩,
               ⟨12, some 54, none, .op .quiet (oFieldAddr 6 (.tmp 53)), []⟩,
               ⟨13, some 55, none, .op .quiet (oFieldAddr 0 (.tmp 54)), []⟩,
               ⟨14, some 56, none, .op .reads (oLoad (.tmp 55)), []⟩,
               ⟨15, some 57, none, .op .quiet (oMv (.tmp 2)), []⟩,
               ⟨16, some 58, none, .op .quiet (oIdxS 1 (.tmp 56) (.tmp 57)), []⟩,
               ⟨17, some 59, none, .op .reads (oLoad (.tmp 58)), []⟩,
               ⟨18, some 60, none, .op .quiet (oArith .gtr (.tmp 51) (.tmp 59)), []⟩])
             (.cond (.tmp 60)
              (.ops [⟨0, some 61, none, .op .quiet (oMv (.tmp 0)), []⟩,
                ⟨1, some 62, none, .op .quiet (oFieldAddr 2 (.tmp 7)), []⟩,
                ⟨2, some 63, none, .op .reads (oLoadN 2 (.tmp 62)), []⟩,
                ⟨3, some 64, none, .op .quiet (oFieldAddr 2 (.tmp 8)), []⟩,
                ⟨4, some 65, none, .op .reads (oLoadN 2 (.tmp 64)), []⟩,
                ⟨5, some 66, none, .callF 333 [(.tmp 61), (.tmp 63), (.tmp 65)], []⟩,
                ⟨6, some 67, none, .op .quiet (oFieldAddr 2 (.tmp 7)), []⟩,
                ⟨7, none, none, .op .hard (oStore 2 (.tmp 67) (.tmp 66)), []⟩])
              (.drawn [⟨0, some 68, none, .op .quiet (oMv (.tmp 0)), []⟩,
                ⟨1, some 69, none, .op .quiet (oNilCheck (.tmp 68)), []⟩,
                ⟨2, some 70, none, .op .quiet (oFieldAddr 11 (.tmp 69)), []⟩,
                ⟨3, some 71, none, .op .reads (oLoad (.tmp 70)), []⟩,
                ⟨4, some 72, none, .op .quiet (oFieldAddr 2 (.tmp 8)), []⟩,
                ⟨5, some 73, none, .op .quiet (oFieldAddr 0 (.tmp 72)), []⟩,
                ⟨6, some 74, none, .op .reads (oLoad (.tmp 73)), []⟩,
                ⟨7, some 75, none, .op .quiet (oMv (.tmp 0)), []⟩,
                ⟨8, some 76, none, .op .quiet (oNilCheck (.tmp 75)), []⟩,
                ⟨9, some 77, none, .op .quiet (oFieldAddr 14 (.tmp 76)), []⟩,
                ⟨10, some 78, none, .op .reads (oLoad (.tmp 77)), []⟩,
                ⟨11, some 79, none, .op .quiet (oMv (.tmp 2)), []⟩,
                ⟨12, some 80, none, .op .quiet (oIdxS 1 (.tmp 78) (.tmp 79)), []⟩,
                ⟨13, some 81, none, .op .reads (oLoad (.tmp 80)), []⟩,
                ⟨14, some 82, none, .op .quiet (oIdxS 1 (.tmp 71) (.tmp 74)), []⟩,
                ⟨15, none, none, .op .hard (oStore 1 (.tmp 82) (.tmp 81)), []⟩]))))))))))
     (.seq
      (.skip)
      (.seq
       (.block 2
        (.loop
         (.seq
          (.seq
           (.ops [⟨0, some 83, none, .op .quiet (oMv (.tmp 0)), []⟩,
             ⟨1, some 84, none, .op .quiet (oNilCheck (.tmp 83)), []⟩,
             ⟨2, some 85, none, .op .quiet (oFieldAddr 10 (.tmp 84)), []⟩,
             ⟨3, some 86, none, .op .reads (oLoad (.tmp 85)), []⟩,
             ⟨4, some 87, none, .op .reads (oLen .slice (.tmp 86)), []⟩,
             ⟨5, some 88, none, .op .quiet (oArith .gtr (.tmp 87) (.val (.int .i64 0))), []⟩])
           (.cond (.tmp 88)
            (.skip)
            (.exit 2)))
          (.block 3
           (.seq
            (.drawn [⟨0, some 89, none, .op .quiet (oMv (.tmp 0)), []⟩,
              ⟨1, some 90, none, .op .quiet (oNilCheck (.tmp 89)), []⟩,
              ⟨2, some 91, none, .op .quiet (oFieldAddr 10 (.tmp 90)), []⟩,
              ⟨3, some 92, none, .op .reads (oLoad (.tmp 91)), []⟩,
              ⟨4, some 93, none, .op .quiet (oMv (.tmp 0)), []⟩,
              ⟨5, some 94, none, .op .quiet (oNilCheck (.tmp 93)), []⟩,
              ⟨6, some 95, none, .op .quiet (oFieldAddr 10 (.tmp 94)), []⟩,
              ⟨7, some 96, none, .op .reads (oLoad (.tmp 95)), []⟩,
              ⟨8, some 97, none, .op .reads (oLen .slice (.tmp 96)), []⟩,
              ⟨9, some 98, none, .op .quiet (oArith .sub (.tmp 97) (.val (.int .i64 1))), []⟩,
              ⟨10, some 99, none, .op .quiet (oIdxS 4 (.tmp 92) (.tmp 98)), []⟩,
              ⟨11, some 100, none, .op .reads (oLoadN 4 (.tmp 99)), []⟩,
              ⟨12, some 9, none, .op .quiet (oAlloc [(.int .i64 0), (.int .i64 0), (.int .i64 0), (.int .i64 0)]), []⟩,
              ⟨13, none, none, .op .hard (oStore 4 (.tmp 9) (.tmp 100)), []⟩])
            (.seq
             (.seq
              (.ops [⟨0, some 101, none, .op .quiet (oMv (.tmp 0)), []⟩,
                ⟨1, some 102, none, .op .quiet (oFieldAddr 0 (.tmp 9)), []⟩,
                ⟨2, some 103, none, .op .reads (oLoadN 2 (.tmp 102)), []⟩,
                ⟨3, some 104, none, .op .quiet (oMv (.tmp 1)), []⟩,
                ⟨4, some 105, none, .callF 334 [(.tmp 101), (.tmp 103), (.tmp 104)], []⟩,
                ⟨5, some 106, none, .op .quiet (oNot (.tmp 105)), []⟩,
                ⟨6, some 107, none, .op .quiet (oMv (.tmp 106)), []⟩,
                ⟨7, some 108, some (107, true), .op .quiet (oMv (.tmp 0)), []⟩,
                ⟨8, some 109, some (107, true), .op .quiet (oFieldAddr 2 (.tmp 9)), []⟩,
                ⟨9, some 110, some (107, true), .op .reads (oLoadN 2 (.tmp 109)), []⟩,
                ⟨10, some 111, some (107, true), .op .quiet (oMv (.tmp 1)), []⟩,
                ⟨11, some 112, some (107, true), .callF 334 [(.tmp 108), (.tmp 110), (.tmp 111)], []⟩,
                ⟨12, some 113, some (107, true), .op .quiet (oNot (.tmp 112)), []⟩,
                ⟨13, some 114, none, .op .quiet (oPick (.tmp 107) (.tmp 113) (.val (.bool false))), []⟩])
              (.cond (.tmp 114)
               (.exit 2)
               (.skip)))
             (.seq
              (.ops [⟨0, some 115, none, .op .quiet (oMv (.tmp 0)), []⟩,
                ⟨1, some 116, none, .callF 303 [(.tmp 115)], []⟩])
              (.seq
               (.seq
                (.ops [⟨0, some 117, none, .op .quiet (oMv (.tmp 0)), []⟩,
                  ⟨1, some 118, none, .op .quiet (oFieldAddr 2 (.tmp 9)), []⟩,
                  ⟨2, some 119, none, .op .reads (oLoadN 2 (.tmp 118)), []⟩,
                  ⟨3, some 120, none, .op .quiet (oMv (.tmp 1)), []⟩,
                  ⟨4, some 121, none, .callF 334 [(.tmp 117), (.tmp 119), (.tmp 120)], []⟩])
                (.cond (.tmp 121)
                 (.ops [⟨0, some 122, none, .op .quiet (oFieldAddr 2 (.tmp 9)), []⟩,
                   ⟨1, some 123, none, .op .reads (oLoadN 2 (.tmp 122)), []⟩,
                   ⟨2, some 124, none, .op .quiet (oFieldAddr 0 (.tmp 9)), []⟩,
                   ⟨3, some 125, none, .op .reads (oLoadN 2 (.tmp 124)), []⟩,
                   ⟨4, some 126, none, .op .quiet (oFieldAddr 0 (.tmp 9)), []⟩,
                   ⟨5, none, none, .op .hard (oStore 2 (.tmp 126) (.tmp 123)), []⟩,
                   ⟨6, some 127, none, .op .quiet (oFieldAddr 2 (.tmp 9)), []⟩,
                   ⟨7, none, none, .op .hard (oStore 2 (.tmp 127) (.tmp 125)), []⟩])
                 (.skip)))
               (.seq
                (.seq
                 (.ops [⟨0, some 128, none, .op .quiet (oMv (.tmp 0)), []⟩,
                   ⟨1, some 129, none, .op .quiet (oFieldAddr 2 (.tmp 9)), []⟩,
                   ⟨2, some 130, none, .op .reads (oLoadN 2 (.tmp 129)), []⟩,
                   ⟨3, some 131, none, .op .quiet (oMv (.tmp 1)), []⟩,
                   ⟨4, some 132, none, .callF 334 [(.tmp 128), (.tmp 130), (.tmp 131)], []⟩])
                 (.cond (.tmp 132)
                  (.seq
                   (.ops [⟨0, some 6, none, .op .quiet (oMv (.val (.bool false))), []⟩])
                   (.ret))
                  (.skip)))
                (.seq
                 (.ops [⟨0, some 133, none, .op .quiet (oMv (.tmp 0)), []⟩,
                   ⟨1, some 134, none, .op .quiet (oFieldAddr 2 (.tmp 7)), []⟩,
                   ⟨2, some 135, none, .op .reads (oLoadN 2 (.tmp 134)), []⟩,
                   ⟨3, some 136, none, .op .quiet (oFieldAddr 2 (.tmp 9)), []⟩,
                   ⟨4, some 137, none, .op .reads (oLoadN 2 (.tmp 136)), []⟩,
                   ⟨5, some 138, none, .callF 333 [(.tmp 133), (.tmp 135), (.tmp 137)], []⟩,
                   ⟨6, some 139, none, .op .quiet (oFieldAddr 2 (.tmp 7)), []⟩,
                   ⟨7, none, none, .op .hard (oStore 2 (.tmp 139) (.tmp 138)), []⟩])
                 (.ops [⟨0, some 140, none, .op .quiet (oMv (.tmp 0)), []⟩,
                   ⟨1, some 141, none, .op .quiet (oFieldAddr 0 (.tmp 7)), []⟩,
                   ⟨2, some 142, none, .op .reads (oLoadN 2 (.tmp 141)), []⟩,
                   ⟨3, some 143, none, .op .quiet (oFieldAddr 0 (.tmp 9)), []⟩,
                   ⟨4, some 144, none, .op .reads (oLoadN 2 (.tmp 143)), []⟩,
                   ⟨5, some 145, none, .callF 333 [(.tmp 140), (.tmp 142), (.tmp 144)], []⟩,
                   ⟨6, some 146, none, .op .quiet (oFieldAddr 0 (.tmp 7)), []⟩,
                   ⟨7, none, none, .op .hard (oStore 2 (.tmp 146) (.tmp 145)), []⟩])))))))))))
       (.seq
        (.seq
         (.ops [⟨0, some 147, none, .op .reads (oLoadN 4 (.tmp 7)), []⟩,
           ⟨1, some 148, none, .op .reads (oLoadN 2 (.val (.pointer (some ⟨0, 0, none⟩)))), []⟩,
           ⟨2, some 149, none, .op .reads (oLoadN 2 (.val (.pointer (some ⟨0, 0, none⟩)))), []⟩,
           ⟨3, some 150, none, .op .quiet (oBuild [(.int .i64 0), (.int .i64 0), (.int .i64 0), (.int .i64 0)] [(0, 2), (2, 2)] [(.tmp 148), (.tmp 149)]), []⟩,
           ⟨4, some 151, none, .op .quiet (oEq true (.ints 4) (.tmp 147) (.tmp 150)), []⟩])
         (.cond (.tmp 151)
          (.drawn [⟨0, some 152, none, .op .quiet (oMv (.tmp 0)), []⟩,
            ⟨1, some 153, none, .op .quiet (oMv (.tmp 0)), []⟩,
            ⟨2, some 154, none, .op .quiet (oNilCheck (.tmp 153)), []⟩,
            ⟨3, some 155, none, .op .quiet (oFieldAddr 10 (.tmp 154)), []⟩,
            ⟨4, some 156, none, .op .reads (oLoad (.tmp 155)), []⟩,
            ⟨5, some 157, none, .op .reads (oLoadN 4 (.tmp 7)), []⟩,
            ⟨6, some 158, none, .op .quiet (oBuildSlice 4 1 [(.int .i64 0), (.int .i64 0), (.int .i64 0), (.int .i64 0)] [(0, 4)] [(.tmp 157)]), []⟩,
            ⟨7, some 159, none, .op .hard (oAppend 4 32 (.tmp 156) (.tmp 158)), []⟩,
            ⟨8, some 160, none, .op .quiet (oNilCheck (.tmp 152)), []⟩,
            ⟨9, some 161, none, .op .quiet (oFieldAddr 10 (.tmp 160)), []⟩,
            ⟨10, none, none, .op .hard (oStore 1 (.tmp 161) (.tmp 159)), []⟩])
          (.skip)))
        (.seq
         (.ops [⟨0, some 6, none, .op .quiet (oMv (.val (.bool true))), []⟩])
         (.ret))))))))⟩
/-- (*tangram/lr.test).least -/
noncomputable def a302 : AF := ⟨[.tmp 4],
 (.seq
   (.ops [⟨0, some 3, none, .op .quiet (oBox (.tmp 1)), []⟩,
     ⟨1, some 4, none, .op .quiet (oMv (.val (.int .i64 0))), []⟩])
   (.seq
    (.block 0
     (.seq
      (.ops [⟨0, some 6, none, .op .quiet (oFieldAddr 0 (.tmp 3)), []⟩,
        ⟨1, some 7, none, .op .reads (oLoadN 2 (.tmp 6)), []⟩,
        ⟨2, some 8, none, .op .reads (oLoadN 2 (.val (.pointer (some ⟨0, 0, none⟩)))), []⟩,
        ⟨3, some 9, none, .op .quiet (oEq false (.ints 2) (.tmp 7) (.tmp 8)), []⟩,
        ⟨4, some 5, none, .op .quiet (oMv (.tmp 9)), []⟩])
      (.cond (.tmp 5)
       (.seq
        (.drawn [⟨0, some 10, none, .op .quiet (oMv (.tmp 0)), []⟩,
          ⟨1, some 11, none, .op .quiet (oNilCheck (.tmp 10)), []⟩,
          ⟨2, some 12, none, .op .quiet (oFieldAddr 6 (.tmp 11)), []⟩,
          ⟨3, some 13, none, .op .quiet (oFieldAddr 0 (.tmp 12)), []⟩,
          ⟨4, some 14, none, .op .reads (oLoad (.tmp 13)), []⟩,
          ⟨5, some 15, none, .op .quiet (oFieldAddr 2 (.tmp 3)), []⟩,
          ⟨6, some 16, none, .op .quiet (oFieldAddr 0 (.tmp 15)), []⟩,
          ⟨7, some 17, none, .op .reads (oLoad (.tmp 16)), []⟩,
          ⟨8, some 18, none, .op .quiet (oIdxS 1 (.tmp 14) (.tmp 17)), []⟩,
          ⟨9, some 19, none, .op .reads (oLoad (.tmp 18)), []⟩,
          ⟨10, some 4, none, .op .quiet (oMv (.tmp 19)), []⟩])
        (.ret))
       (.seq
        (.ops [⟨0, some 21, none, .op .quiet (oFieldAddr 2 (.tmp 3)), []⟩,
          ⟨1, some 22, none, .op .reads (oLoadN 2 (.tmp 21)), []⟩,
          ⟨2, some 23, none, .op .reads (oLoadN 2 (.val (.pointer (some ⟨0, 0, none⟩)))), []⟩,
          ⟨3, some 24, none, .op .quiet (oEq false (.ints 2) (.tmp 22) (.tmp 23)), []⟩,
          ⟨4, some 20, none, .op .quiet (oMv (.tmp 24)), []⟩])
        (.cond (.tmp 20)
         (.seq
          (.drawn [⟨0, some 25, none, .op .quiet (oMv (.tmp 0)), []⟩,
            ⟨1, some 26, none, .op .quiet (oNilCheck (.tmp 25)), []⟩,
            ⟨2, some 27, none, .op .quiet (oFieldAddr 6 (.tmp 26)), []⟩,
            ⟨3, some 28, none, .op .quiet (oFieldAddr 0 (.tmp 27)), []⟩,
            ⟨4, some 29, none, .op .reads (oLoad (.tmp 28)), []⟩,
            ⟨5, some 30, none, .op .quiet (oFieldAddr 0 (.tmp 3)), []⟩,
            ⟨6, some 31, none, .op .quiet (oFieldAddr 0 (.tmp 30)), []⟩,
            ⟨7, some 32, none, .op .reads (oLoad (.tmp 31)), []⟩,
            ⟨8, some 33, none, .op .quiet (oIdxS 1 (.tmp 29) (.tmp 32)), []⟩,
            ⟨9, some 34, none, .op .reads (oLoad (.tmp 33)), []⟩,
            ⟨10, some 4, none, .op .quiet (oMv (.tmp 34)), []⟩])
          (.ret))
         (.skip))))))
    (.seq
     (.drawn [⟨0, some 35, none, .op .quiet (oMv (.tmp 0)), []⟩,
       ⟨1, some 36, none, .op .quiet (oNilCheck (.tmp 35)), []⟩,
       ⟨2, some 37, none, .op .quiet (oFieldAddr 6 (.tmp 36)), []⟩,
       ⟨3, some 38, none, .op .quiet (oFieldAddr 0 (.tmp 37)), []⟩,
       ⟨4, some 39, none, .op .reads (oLoad (.tmp 38)), []⟩,
       ⟨5, some 40, none, .op .quiet (oFieldAddr 0 (.tmp 3)), []⟩,
       ⟨6, some 41, none, .op .quiet (oFieldAddr 0 (.tmp 40)), []⟩,
       ⟨7, some 42, none, .op .reads (oLoad (.tmp 41)), []⟩,
       ⟨8, some 43, none, .op .quiet (oIdxS 1 (.tmp 39) (.tmp 42)), []⟩,
       ⟨9, some 44, none, .op .reads (oLoad (.tmp 43)), []⟩,
       ⟨10, some 45, none, .op .quiet (oMv (.tmp 0)), []⟩,
       ⟨11, some 46, none, .op .quiet (oNilCheck (.tmp 45)), []⟩,
       ⟨12, some 47, none, .op .quiet (oFieldAddr 6 (.tmp 46)), []⟩,
       ⟨13, some 48, none, .op .quiet (oFieldAddr 0 (.tmp 47)), []⟩,
       ⟨14, some 49, none, .op .reads (oLoad (.tmp 48)), []⟩,
       ⟨15, some 50, none, .op .quiet (oFieldAddr 2 (.tmp 3)), []⟩,
       ⟨16, some 51, none, .op .quiet (oFieldAddr 0 (.tmp 50)), []⟩,
       ⟨17, some 52, none, .op .reads (oLoad (.tmp 51)), []⟩,
       ⟨18, some 53, none, .op .quiet (oIdxS 1 (.tmp 49) (.tmp 52)), []⟩,
       ⟨19, some 54, none, .op .reads (oLoad (.tmp 53)), []⟩,
       ⟨20, some 55, none, .op .quiet (oMin (.tmp 44) [(.tmp 54)]), []⟩,
       ⟨21, some 4, none, .op .quiet (oMv (.tmp 55)), []⟩])
     (.ret))))⟩
/-- (*tangram/lr.test).pop -/
noncomputable def a303 : AF := ⟨[.cellN 2 4],
 (.seq
   (.ops [⟨0, some 2, none, .op .quiet (oAlloc [(.int .i64 0), (.int .i64 0), (.int .i64 0), (.int .i64 0)]), []⟩])
   (.seq
    (.drawn [⟨0, some 4, none, .op .quiet (oMv (.tmp 0)), []⟩,
      ⟨1, some 5, none, .op .quiet (oNilCheck (.tmp 4)), []⟩,
      ⟨2, some 6, none, .op .quiet (oFieldAddr 10 (.tmp 5)), []⟩,
      ⟨3, some 7, none, .op .reads (oLoad (.tmp 6)), []⟩,
      ⟨4, some 8, none, .op .quiet (oMv (.tmp 0)), []⟩,
      ⟨5, some 9, none, .op .quiet (oNilCheck (.tmp 8)), []⟩,
      ⟨6, some 10, none, .op .quiet (oFieldAddr 10 (.tmp 9)), []⟩,
      ⟨7, some 11, none, .op .reads (oLoad (.tmp 10)), []⟩,
      ⟨8, some 12, none, .op .reads (oLen .slice (.tmp 11)), []⟩,
      ⟨9, some 13, none, .op .quiet (oArith .sub (.tmp 12) (.val (.int .i64 1))), []⟩,
      ⟨10, some 14, none, .op .quiet (oIdxS 4 (.tmp 7) (.tmp 13)), []⟩,
      ⟨11, some 15, none, .op .reads (oLoadN 4 (.tmp 14)), []⟩,
      ⟨12, some 3, none, .op .quiet (oAlloc [(.int .i64 0), (.int .i64 0), (.int .i64 0), (.int .i64 0)]), []⟩,
      ⟨13, none, none, .op .hard (oStore 4 (.tmp 3) (.tmp 15)), []⟩])
    (.seq
     (.drawn [⟨0, some 16, none, .op .quiet (oMv (.tmp 0)), []⟩,
       ⟨1, some 17, none, .op .quiet (oMv (.tmp 0)), []⟩,
       ⟨2, some 18, none, .op .quiet (oNilCheck (.tmp 17)), []⟩,
       ⟨3, some 19, none, .op .quiet (oFieldAddr 10 (.tmp 18)), []⟩,
       ⟨4, some 20, none, .op .reads (oLoad (.tmp 19)), []⟩,
       ⟨5, some 21, none, .op .quiet (oMv (.tmp 0)), []⟩,
       ⟨6, some 22, none, .op .quiet (oNilCheck (.tmp 21)), []⟩,
       ⟨7, some 23, none, .op .quiet (oFieldAddr 10 (.tmp 22)), []⟩,
       ⟨8, some 24, none, .op .reads (oLoad (.tmp 23)), []⟩,
       ⟨9, some 25, none, .op .reads (oLen .slice (.tmp 24)), []⟩,
       ⟨10, some 26, none, .op .quiet (oArith .sub (.tmp 25) (.val (.int .i64 1))), []⟩,
       ⟨11, some 27, none, .op .quiet (oSlice 4 (.tmp 20) none (some (.tmp 26)) none), []⟩,
       ⟨12, some 28, none, .op .quiet (oNilCheck (.tmp 16)), []⟩,
       ⟨13, some 29, none, .op .quiet (oFieldAddr 10 (.tmp 28)), []⟩,
       ⟨14, none, none, .op .hard (oStore 1 (.tmp 29) (.tmp 27)), []⟩])
     (.seq
      (.ops [⟨0, some 30, none, .op .reads (oLoadN 4 (.tmp 3)), []⟩,
        ⟨1, none, none, .op .hard (oStore 4 (.tmp 2) (.tmp 30)), []⟩])
      (.ret)))))⟩
/-- (*tangram/lr.test).trim -/
noncomputable def a304 : AF := ⟨[.cellN 8 2],
 (.seq
   (.ops [⟨0, some 5, none, .op .quiet (oBox (.tmp 1)), []⟩,
     ⟨1, some 6, none, .op .quiet (oBox (.tmp 2)), []⟩,
     ⟨2, some 8, none, .op .quiet (oAlloc [(.int .i64 0), (.int .i64 0)]), []⟩])
   (.seq
    (.seq
     (.ops [⟨0, some 11, none, .op .reads (oLoadN 2 (.tmp 5)), []⟩,
       ⟨1, some 12, none, .op .reads (oLoadN 2 (.val (.pointer (some ⟨0, 0, none⟩)))), []⟩,
       ⟨2, some 13, none, .op .quiet (oEq false (.ints 2) (.tmp 11) (.tmp 12)), []⟩])
     (.cond (.tmp 13)
      (.seq
       (.ops [⟨0, some 14, none, .op .reads (oLoadN 2 (.tmp 5)), []⟩,
         ⟨1, none, none, .op .hard (oStore 2 (.tmp 8) (.tmp 14)), []⟩])
       (.ret))
      (.skip)))
    (.seq
     (.block 0
      (.loop
       (.seq
        (.seq
         (.ops [⟨0, some 15, none, .op .quiet (oFieldAddr 1 (.tmp 5)), []⟩,
           ⟨1, some 16, none, .op .reads (oLoad (.tmp 15)), []⟩,
           ⟨2, some 17, none, .op .quiet (oArith .neq (.tmp 16) (.val (.int .i64 (-1)))), []⟩])
         (.cond (.tmp 17)
          (.skip)
          (.exit 0)))
        (.block 1
         (.seq
          (.seq
           (.ops [⟨0, some 19, none, .op .quiet (oMv (.tmp 0)), []⟩,
             ⟨1, some 20, none, .op .quiet (oFieldAddr 1 (.tmp 5)), []⟩,
             ⟨2, some 21, none, .op .reads (oLoad (.tmp 20)), []⟩,
             ⟨3, some 22, none, .callF 176 [(.tmp 19), (.tmp 21)], []⟩,
             ⟨4, some 18, none, .op .quiet (oMv (.tmp 22)), []⟩,
             ⟨5, some 23, none, .op .quiet (oExtract 0 (.tmp 18)), []⟩,
             ⟨6, some 24, none, .op .quiet (oExtract 1 (.tmp 18)), []⟩,
             ⟨7, some 9, none, .op .quiet (oMv (.tmp 23)), []⟩,
             ⟨8, some 10, none, .op .quiet (oMv (.tmp 24)), []⟩])
           (.seq
            (.ops [⟨0, some 25, none, .op .quiet (oMv (.tmp 10)), []⟩,
              ⟨1, some 26, none, .op .quiet (oMv (.tmp 3)), []⟩,
              ⟨2, some 27, none, .op .quiet (oArith .neq (.tmp 25) (.tmp 26)), []⟩])
            (.cond (.tmp 27)
             (.seq
              (.ops [⟨0, some 28, none, .op .reads (oLoadN 2 (.tmp 5)), []⟩,
                ⟨1, none, none, .op .hard (oStore 2 (.tmp 8) (.tmp 28)), []⟩])
              (.ret))
             (.skip))))
          (.seq
           (.seq
            (.ops [⟨0, some 29, none, .op .quiet (oFieldAddr 1 (.tmp 5)), []⟩,
              ⟨1, some 30, none, .op .reads (oLoad (.tmp 29)), []⟩,
              ⟨2, some 31, none, .op .quiet (oFieldAddr 0 (.tmp 5)), []⟩,
              ⟨3, some 32, none, .op .reads (oLoad (.tmp 31)), []⟩,
              ⟨4, some 33, none, .op .quiet (oArith .eql (.tmp 30) (.tmp 32)), []⟩])
            (.cond (.tmp 33)
             (.seq
              (.ops [⟨0, some 34, none, .op .quiet (oFieldAddr 1 (.tmp 5)), []⟩,
                ⟨1, none, none, .op .hard (oStore 1 (.tmp 34) (.val (.int .i64 (-1)))), []⟩])
              (.exit 0))
             (.skip)))
           (.drawn [⟨0, some 35, none, .op .quiet (oMv (.tmp 0)), []⟩,
             ⟨1, some 36, none, .op .quiet (oNilCheck (.tmp 35)), []⟩,
             ⟨2, some 37, none, .op .quiet (oFieldAddr 11 (.tmp 36)), []⟩,
             ⟨3, some 38, none, .op .reads (oLoad (.tmp 37)), []⟩,
             ⟨4, some 39, none, .op .quiet (oFieldAddr 1 (.tmp 5)), []⟩,
             ⟨5, some 40, none, .op .reads (oLoad (.tmp 39)), []⟩,
             ⟨6, some 41, none, .op .quiet (oIdxS 1 (.tmp 38) (.tmp 40)), []⟩,
             ⟨7, some 42, none, .op .reads (oLoad (.tmp 41)), []⟩,
             ⟨8, some 43, none, .op .quiet (oFieldAddr 1 (.tmp 5)), []⟩,
             ⟨9, none, none, .op .hard (oStore 1 (.tmp 43) (.tmp 42)), []⟩])))))))
     (.seq
      (.drawn [⟨0, some 44, none, .op .quiet (oMv (.tmp 0)), []⟩,
        ⟨1, some 45, none, .op .quiet (oNilCheck (.tmp 44)), []⟩,
        ⟨2, some 46, none, .op .quiet (oFieldAddr 11 (.tmp 45)), []⟩,
        ⟨3, some 47, none, .op .reads (oLoad (.tmp 46)), []⟩,
        ⟨4, some 48, none, .op .quiet (oFieldAddr 0 (.tmp 5)), []⟩,
        ⟨5, some 49, none, .op .reads (oLoad (.tmp 48)), []⟩,
        ⟨6, some 50, none, .op .quiet (oFieldAddr 0 (.tmp 6)), []⟩,
        ⟨7, some 51, none, .op .reads (oLoad (.tmp 50)), []⟩,
        ⟨8, some 52, none, .op .quiet (oIdxS 1 (.tmp 47) (.tmp 49)), []⟩,
        ⟨9, none, none, .op .hard (oStore 1 (.tmp 52) (.tmp 51)), []⟩])
      (.seq
       (.drawn [⟨0, some 53, none, .op .quiet (oMv (.tmp 0)), []⟩,
         ⟨1, some 54, none, .op .quiet (oNilCheck (.tmp 53)), []⟩,
         ⟨2, some 55, none, .op .quiet (oFieldAddr 12 (.tmp 54)), []⟩,
         ⟨3, some 56, none, .op .reads (oLoad (.tmp 55)), []⟩,
         ⟨4, some 57, none, .op .quiet (oFieldAddr 0 (.tmp 5)), []⟩,
         ⟨5, some 58, none, .op .reads (oLoad (.tmp 57)), []⟩,
         ⟨6, some 59, none, .op .quiet (oIdxS 1 (.tmp 56) (.tmp 58)), []⟩,
         ⟨7, none, none, .op .hard (oStore 1 (.tmp 59) (.val (.int .i64 (-1)))), []⟩])
       (.seq
        (.ops [⟨0, some 60, none, .op .reads (oLoadN 2 (.val (.pointer (some ⟨0, 0, none⟩)))), []⟩,
          ⟨1, none, none, .op .hard (oStore 2 (.tmp 8) (.tmp 60)), []⟩])
        (.ret)))))))⟩
/-- math/bits.Len -/
noncomputable def a307 : AF := ⟨[.tmp 2],
 (.seq
   (.ops [⟨0, some 2, none, .op .quiet (oMv (.val (.int .i64 0))), []⟩])
   (.seq
    (.cond (.val (.bool false))
     (.seq
      (.ops [⟨0, some 3, none, .op .quiet (oMv (.tmp 0)), []⟩,
        ⟨1, some 4, none, .op .quiet (oConv .u32 (.tmp 3)), []⟩,
        ⟨2, some 5, none, .callF 343 [(.tmp 4)], []⟩,
        ⟨3, some 2, none, .op .quiet (oMv (.tmp 5)), []⟩])
      (.ret))
     (.skip))
    (.seq
     (.ops [⟨0, some 6, none, .op .quiet (oMv (.tmp 0)), []⟩,
       ⟨1, some 7, none, .callF 344 [(.tmp 6)], []⟩,
       ⟨2, some 2, none, .op .quiet (oMv (.tmp 7)), []⟩])
     (.ret))))⟩
/-- (*tangram/comps.Sets).has -/
noncomputable def a309 : AF := ⟨[.tmp 4],
 (.seq
   (.ops [⟨0, some 4, none, .op .quiet (oMv (.val (.bool false))), []⟩])
   (.seq
    (.ops [⟨0, some 5, none, .op .quiet (oMv (.tmp 0)), []⟩,
      ⟨1, some 6, none, .op .quiet (oEq true .ptrNil (.tmp 5) (.val (.pointer none))), []⟩,
      ⟨2, some 7, none, .op .quiet (oMv (.tmp 6)), []⟩,
      ⟨3, some 8, some (7, true), .op .quiet (oMv (.tmp 0)), []⟩,
      ⟨4, some 9, some (7, true), .op .quiet (oNilCheck (.tmp 8)), []⟩,
      ⟨5, some 10, some (7, true), .op .quiet (oFieldAddr 0 (.tmp 9)), []⟩,
      ⟨6, some 11, some (7, true), .op .reads (oLoad (.tmp 10)), []⟩,
      ⟨7, some 12, some (7, true), .op .quiet (oMv (.tmp 1)), []⟩,
      ⟨8, some 13, some (7, true), .callF 345 [(.tmp 11), (.tmp 12)], []⟩,
      ⟨9, some 14, none, .op .quiet (oPick (.tmp 7) (.tmp 13) (.val (.bool false))), []⟩,
      ⟨10, some 4, none, .op .quiet (oMv (.tmp 14)), []⟩])
    (.ret)))⟩
/-- (tangram/comps.parents).root -/
noncomputable def a310 : AF := ⟨[.tmp 4],
 (.seq
   (.ops [⟨0, some 4, none, .op .quiet (oMv (.val (.int .i64 0))), []⟩])
   (.seq
    (.block 0
     (.loop
      (.seq
       (.seq
        (.ops [⟨0, some 5, none, .op .quiet (oMv (.tmp 0)), []⟩,
          ⟨1, some 6, none, .op .quiet (oMv (.tmp 1)), []⟩,
          ⟨2, some 7, none, .op .quiet (oIdxS 1 (.tmp 5) (.tmp 6)), []⟩,
          ⟨3, some 8, none, .op .reads (oLoad (.tmp 7)), []⟩,
          ⟨4, some 9, none, .op .quiet (oMv (.tmp 1)), []⟩,
          ⟨5, some 10, none, .op .quiet (oArith .neq (.tmp 8) (.tmp 9)), []⟩])
        (.cond (.tmp 10)
         (.skip)
         (.exit 0)))
       (.block 1
        (.seq
         (.ops [⟨0, some 11, none, .op .quiet (oMv (.tmp 0)), []⟩,
           ⟨1, some 12, none, .op .quiet (oMv (.tmp 1)), []⟩,
           ⟨2, some 13, none, .op .quiet (oMv (.tmp 0)), []⟩,
           ⟨3, some 14, none, .op .quiet (oMv (.tmp 0)), []⟩,
           ⟨4, some 15, none, .op .quiet (oMv (.tmp 1)), []⟩,
           ⟨5, some 16, none, .op .quiet (oIdxS 1 (.tmp 14) (.tmp 15)), []⟩,
           ⟨6, some 17, none, .op .reads (oLoad (.tmp 16)), []⟩,
           ⟨7, some 18, none, .op .quiet (oIdxS 1 (.tmp 13) (.tmp 17)), []⟩,
           ⟨8, some 19, none, .op .reads (oLoad (.tmp 18)), []⟩,
           ⟨9, some 20, none, .op .quiet (oIdxS 1 (.tmp 11) (.tmp 12)), []⟩,
           ⟨10, none, none, .op .hard (oStore 1 (.tmp 20) (.tmp 19)), []⟩])
         (.ops [⟨0, some 21, none, .op .quiet (oMv (.tmp 0)), []⟩,
           ⟨1, some 22, none, .op .quiet (oMv (.tmp 1)), []⟩,
           ⟨2, some 23, none, .op .quiet (oIdxS 1 (.tmp 21) (.tmp 22)), []⟩,
           ⟨3, some 24, none, .op .reads (oLoad (.tmp 23)), []⟩,
           ⟨4, some 1, none, .op .quiet (oMv (.tmp 24)), []⟩]))))))
    (.seq
     (.ops [⟨0, some 25, none, .op .quiet (oMv (.tmp 1)), []⟩,
       ⟨1, some 4, none, .op .quiet (oMv (.tmp 25)), []⟩])
     (.ret))))⟩
/-- cmp.isNaN[int] -/
noncomputable def a317 : AF := ⟨[.tmp 2],
 (.seq
   (.ops [⟨0, some 2, none, .op .quiet (oMv (.val (.bool false))), []⟩])
   (.seq
    (.ops [⟨0, some 3, none, .op .quiet (oMv (.tmp 0)), []⟩,
      ⟨1, some 4, none, .op .quiet (oMv (.tmp 0)), []⟩,
      ⟨2, some 5, none, .op .quiet (oArith .neq (.tmp 3) (.tmp 4)), []⟩,
      ⟨3, some 2, none, .op .quiet (oMv (.tmp 5)), []⟩])
    (.ret)))⟩
/-- (*tangram/tri.plane).put -/
noncomputable def a318 : AF := ⟨[],
 (.seq
   (.seq
    (.ops [⟨0, some 8, none, .op .quiet (oMv (.tmp 3)), []⟩,
      ⟨1, some 9, none, .op .quiet (oArith .lss (.tmp 8) (.val (.int .i64 0))), []⟩])
    (.cond (.tmp 9)
     (.seq
      (.drawn [⟨0, some 10, none, .op .quiet (oMv (.tmp 0)), []⟩,
        ⟨1, some 11, none, .op .quiet (oNilCheck (.tmp 10)), []⟩,
        ⟨2, some 12, none, .op .quiet (oFieldAddr 2 (.tmp 11)), []⟩,
        ⟨3, some 13, none, .op .reads (oLoad (.tmp 12)), []⟩,
        ⟨4, some 14, none, .op .quiet (oMv (.tmp 1)), []⟩,
        ⟨5, some 15, none, .op .quiet (oMv (.tmp 0)), []⟩,
        ⟨6, some 16, none, .op .quiet (oNilCheck (.tmp 15)), []⟩,
        ⟨7, some 17, none, .op .quiet (oFieldAddr 3 (.tmp 16)), []⟩,
        ⟨8, some 18, none, .op .reads (oLoad (.tmp 17)), []⟩,
        ⟨9, some 19, none, .op .quiet (oMv (.tmp 2)), []⟩,
        ⟨10, some 20, none, .op .quiet (oMv (.tmp 1)), []⟩,
        ⟨11, some 21, none, .op .quiet (oMv (.tmp 1)), []⟩,
        ⟨12, some 22, none, .op .quiet (oIdxS 1 (.tmp 13) (.tmp 14)), []⟩,
        ⟨13, none, none, .op .hard (oStore 1 (.tmp 22) (.tmp 20)), []⟩,
        ⟨14, some 23, none, .op .quiet (oIdxS 1 (.tmp 18) (.tmp 19)), []⟩,
        ⟨15, none, none, .op .hard (oStore 1 (.tmp 23) (.tmp 21)), []⟩])
      (.ret))
     (.skip)))
   (.drawn [⟨0, some 24, none, .op .quiet (oMv (.tmp 0)), []⟩,
     ⟨1, some 25, none, .op .quiet (oNilCheck (.tmp 24)), []⟩,
     ⟨2, some 26, none, .op .quiet (oFieldAddr 2 (.tmp 25)), []⟩,
     ⟨3, some 27, none, .op .reads (oLoad (.tmp 26)), []⟩,
     ⟨4, some 28, none, .op .quiet (oMv (.tmp 1)), []⟩,
     ⟨5, some 29, none, .op .quiet (oMv (.tmp 0)), []⟩,
     ⟨6, some 30, none, .op .quiet (oNilCheck (.tmp 29)), []⟩,
     ⟨7, some 31, none, .op .quiet (oFieldAddr 2 (.tmp 30)), []⟩,
     ⟨8, some 32, none, .op .reads (oLoad (.tmp 31)), []⟩,
     ⟨9, some 33, none, .op .quiet (oMv (.tmp 3)), []⟩,
     ⟨10, some 34, none, .op .quiet (oMv (.tmp 0)), []⟩,
     ⟨11, some 35, none, .op .quiet (oNilCheck (.tmp 34)), []⟩,
     ⟨12, some 36, none, .op .quiet (oFieldAddr 2 (.tmp 35)), []⟩,
     ⟨13, some 37, none, .op .reads (oLoad (.tmp 36)), []⟩,
     ⟨14, some 38, none, .op .quiet (oMv (.tmp 3)), []⟩,
     ⟨15, some 39, none, .op .quiet (oIdxS 1 (.tmp 37) (.tmp 38)), []⟩,
     ⟨16, some 40, none, .op .reads (oLoad (.tmp 39)), []⟩,
     ⟨17, some 41, none, .op .quiet (oMv (.tmp 1)), []⟩,
     ⟨18, some 42, none, .op .quiet (oIdxS 1 (.tmp 27) (.tmp 28)), []⟩,
     ⟨19, none, none, .op .hard (oStore 1 (.tmp 42) (.tmp 40)), []⟩,
     ⟨20, some 43, none, .op .quiet (oIdxS 1 (.tmp 32) (.tmp 33)), []⟩,
     ⟨21, none, none, .op .hard (oStore 1 (.tmp 43) (.tmp 41)), []⟩]))⟩
/-- tangram/tri.edge -/
noncomputable def a319 : AF := ⟨[.cellN 4 2],
 (.seq
   (.ops [⟨0, some 4, none, .op .quiet (oAlloc [(.int .i64 0), (.int .i64 0)]), []⟩])
   (.seq
    (.ops [⟨0, some 5, none, .op .quiet (oMv (.tmp 0)), []⟩,
      ⟨1, some 6, none, .op .quiet (oMv (.tmp 1)), []⟩,
      ⟨2, some 7, none, .op .quiet (oMin (.tmp 5) [(.tmp 6)]), []⟩,
      ⟨3, some 8, none, .op .quiet (oMv (.tmp 0)), []⟩,
      ⟨4, some 9, none, .op .quiet (oMv (.tmp 1)), []⟩,
      ⟨5, some 10, none, .op .quiet (oMax (.tmp 8) [(.tmp 9)]), []⟩,
      ⟨6, some 11, none, .op .quiet (oBuild [(.int .i64 0), (.int .i64 0)] [(0, 1), (1, 1)] [(.tmp 7), (.tmp 10)]), []⟩,
      ⟨7, none, none, .op .hard (oStore 2 (.tmp 4) (.tmp 11)), []⟩])
    (.ret)))⟩
/-- (*tangram/tri.plane).step -/
noncomputable def a320 : AF := ⟨[.tmp 4],
 (.seq
   (.ops [⟨0, some 4, none, .op .quiet (oMv (.val (.int .i64 0))), []⟩])
   (.seq
    (.ops [⟨0, some 5, none, .op .quiet (oMv (.tmp 0)), []⟩,
      ⟨1, some 6, none, .op .quiet (oNilCheck (.tmp 5)), []⟩,
      ⟨2, some 7, none, .op .quiet (oFieldAddr 2 (.tmp 6)), []⟩,
      ⟨3, some 8, none, .op .reads (oLoad (.tmp 7)), []⟩,
      ⟨4, some 9, none, .op .quiet (oMv (.tmp 1)), []⟩,
      ⟨5, some 10, none, .op .quiet (oArith .xor (.tmp 9) (.val (.int .i64 1))), []⟩,
      ⟨6, some 11, none, .op .quiet (oIdxS 1 (.tmp 8) (.tmp 10)), []⟩,
      ⟨7, some 12, none, .op .reads (oLoad (.tmp 11)), []⟩,
      ⟨8, some 4, none, .op .quiet (oMv (.tmp 12)), []⟩])
    (.ret)))⟩
/-- (*tangram/tri.plane).chord -/
noncomputable def a321 : AF := ⟨[.tmp 6],
 (.seq
   (.ops [⟨0, some 6, none, .op .quiet (oMv (.val (.bool false))), []⟩])
   (.seq
    (.drawn [⟨0, some 9, none, .op .quiet (oMv (.tmp 0)), []⟩,
      ⟨1, some 10, none, .op .quiet (oNilCheck (.tmp 9)), []⟩,
      ⟨2, some 11, none, .op .quiet (oFieldAddr 1 (.tmp 10)), []⟩,
      ⟨3, some 12, none, .op .reads (oLoad (.tmp 11)), []⟩,
      ⟨4, some 13, none, .op .quiet (oMv (.tmp 1)), []⟩,
      ⟨5, some 14, none, .op .quiet (oIdxS 1 (.tmp 12) (.tmp 13)), []⟩,
      ⟨6, some 15, none, .op .reads (oLoad (.tmp 14)), []⟩,
      ⟨7, some 16, none, .op .quiet (oMv (.tmp 0)), []⟩,
      ⟨8, some 17, none, .op .quiet (oNilCheck (.tmp 16)), []⟩,
      ⟨9, some 18, none, .op .quiet (oFieldAddr 1 (.tmp 17)), []⟩,
      ⟨10, some 19, none, .op .reads (oLoad (.tmp 18)), []⟩,
      ⟨11, some 20, none, .op .quiet (oMv (.tmp 2)), []⟩,
      ⟨12, some 21, none, .op .quiet (oIdxS 1 (.tmp 19) (.tmp 20)), []⟩,
      ⟨13, some 22, none, .op .reads (oLoad (.tmp 21)), []⟩,
      ⟨14, some 7, none, .op .quiet (oMv (.tmp 15)), []⟩,
      ⟨15, some 8, none, .op .quiet (oMv (.tmp 22)), []⟩])
    (.seq
     (.seq
      (.drawn [⟨0, some 23, none, .op .quiet (oMv (.tmp 7)), []⟩,
        ⟨1, some 24, none, .op .quiet (oMv (.tmp 8)), []⟩,
        ⟨2, some 25, none, .op .quiet (oArith .eql (.tmp 23) (.tmp 24)), []⟩,
        ⟨3, some 26, none, .op .quiet (oMv (.tmp 25)), []⟩,
        ⟨4, some 27, some (26, false), .op .quiet (oMv (.tmp 0)), []⟩,
        ⟨5, some 28, some (26, false), .op .quiet (oNilCheck (.tmp 27)), []⟩,
        ⟨6, some 29, some (26, false), .op .quiet (oFieldAddr 4 (.tmp 28)), []⟩,
        ⟨7, some 30, some (26, false), .op .reads (oLoad (.tmp 29)), []⟩,
        ⟨8, some 31, some (26, false), .op .quiet (oMv (.tmp 7)), []⟩,
        ⟨9, some 32, some (26, false), .op .quiet (oMv (.tmp 8)), []⟩,
        ⟨10, some 33, some (26, false), .callF 319 [(.tmp 31), (.tmp 32)], [7]⟩,
        ⟨11, some 34, some (26, false), .op .reads (oLookup (.ints 2) false (.bool false) (.tmp 30) (.tmp 33)), []⟩,
        ⟨12, some 35, none, .op .quiet (oPick (.tmp 26) (.val (.bool true)) (.tmp 34)), []⟩])
      (.cond (.tmp 35)
       (.seq
        (.ops [⟨0, some 6, none, .op .quiet (oMv (.val (.bool false))), []⟩])
        (.ret))
       (.skip)))
     (.seq
      (.ops [⟨0, some 36, none, .op .quiet (oMv (.tmp 0)), []⟩,
        ⟨1, some 37, none, .op .quiet (oMv (.tmp 7)), []⟩,
        ⟨2, some 38, none, .op .quiet (oMv (.tmp 8)), []⟩,
        ⟨3, some 39, none, .op .quiet (oMv (.tmp 1)), []⟩,
        ⟨4, some 40, none, .op .quiet (oArith .xor (.tmp 39) (.val (.int .i64 1))), []⟩,
        ⟨5, some 41, none, .op .quiet (oMv (.tmp 2)), []⟩,
        ⟨6, some 42, none, .op .quiet (oArith .xor (.tmp 41) (.val (.int .i64 1))), []⟩,
        ⟨7, some 43, none, .callF 273 [(.tmp 36), (.tmp 37), (.tmp 38), (.tmp 40), (.tmp 42)], []⟩])
      (.seq
       (.ops [⟨0, some 6, none, .op .quiet (oMv (.val (.bool true))), []⟩])
       (.ret))))))⟩
/-- (*tangram/tri.plane).graph$1 -/
noncomputable def a322 : AF := ⟨[.cellN 3 2],
 (.seq
   (.ops [⟨0, some 3, none, .op .quiet (oAlloc [(.int .i64 0), (.int .i64 0)]), []⟩])
   (.seq
    (.drawn [⟨0, some 4, none, .op .reads (oLoad (.tmp 1)), []⟩,
      ⟨1, some 5, none, .op .quiet (oNilCheck (.tmp 4)), []⟩,
      ⟨2, some 6, none, .op .quiet (oFieldAddr 1 (.tmp 5)), []⟩,
      ⟨3, some 7, none, .op .reads (oLoad (.tmp 6)), []⟩,
      ⟨4, some 8, none, .op .quiet (oMv (.tmp 0)), []⟩,
      ⟨5, some 9, none, .op .quiet (oArith .mul (.val (.int .i64 2)) (.tmp 8)), []⟩,
      ⟨6, some 10, none, .op .quiet (oIdxS 1 (.tmp 7) (.tmp 9)), []⟩,
      ⟨7, some 11, none, .op .reads (oLoad (.tmp 10)), []⟩,
      ⟨8, some 12, none, .op .reads (oLoad (.tmp 1)), []⟩,
      ⟨9, some 13, none, .op .quiet (oNilCheck (.tmp 12)), []⟩,
      ⟨10, some 14, none, .op .quiet (oFieldAddr 1 (.tmp 13)), []⟩,
      ⟨11, some 15, none, .op .reads (oLoad (.tmp 14)), []⟩,
      ⟨12, some 16, none, .op .quiet (oMv (.tmp 0)), []⟩,
      ⟨13, some 17, none, .op .quiet (oArith .mul (.val (.int .i64 2)) (.tmp 16)), []⟩,
      ⟨14, some 18, none, .op .quiet (oArith .add (.tmp 17) (.val (.int .i64 1))), []⟩,
      ⟨15, some 19, none, .op .quiet (oIdxS 1 (.tmp 15) (.tmp 18)), []⟩,
      ⟨16, some 20, none, .op .reads (oLoad (.tmp 19)), []⟩,
      ⟨17, some 21, none, .callF 319 [(.tmp 11), (.tmp 20)], []⟩,
      ⟨18, none, none, .op .hard (oStore 2 (.tmp 3) (.tmp 21)), []⟩])
    (.ret)))⟩
/-- slices.SortFunc[[]int,int] -/
noncomputable def a323 : AF := ⟨[],
 (.seq
   (.ops [⟨0, some 5, none, .op .quiet (oMv (.tmp 0)), []⟩,
     ⟨1, some 6, none, .op .reads (oLen .slice (.tmp 5)), []⟩,
     ⟨2, some 4, none, .op .quiet (oMv (.tmp 6)), []⟩])
   (.ops [⟨0, some 7, none, .op .quiet (oMv (.tmp 0)), []⟩,
     ⟨1, some 8, none, .op .quiet (oMv (.tmp 4)), []⟩,
     ⟨2, some 9, none, .op .quiet (oMv (.tmp 4)), []⟩,
     ⟨3, some 10, none, .op .quiet (oConv .u64 (.tmp 9)), []⟩,
     ⟨4, some 11, none, .callF 307 [(.tmp 10)], []⟩,
     ⟨5, some 12, none, .op .quiet (oMv (.tmp 1)), []⟩,
     ⟨6, some 13, none, .callF 350 [(.tmp 7), (.val (.int .i64 0)), (.tmp 8), (.tmp 11), (.tmp 12)], []⟩]))⟩
/-- (*tangram/tri.plane).graph$2 -/
noncomputable def a324 : AF := ⟨[.tmp 5],
 (.seq
   (.ops [⟨0, some 5, none, .op .quiet (oMv (.val (.int .i64 0))), []⟩])
   (.seq
    (.drawn [⟨0, some 8, none, .op .reads (oLoad (.tmp 2)), []⟩,
      ⟨1, some 9, none, .op .quiet (oMv (.tmp 0)), []⟩,
      ⟨3, some 11, none, .op .reads (oLoad (.tmp 2)), []⟩,
      ⟨4, some 12, none, .op .quiet (oMv (.tmp 1)), []⟩,
      ⟨6, some 6, none, .op .quiet (oAlloc [(.int .i64 0), (.int .i64 0)]), []⟩,
      ⟨7, some 7, none, .op .quiet (oAlloc [(.int .i64 0), (.int .i64 0)]), []⟩,
      ⟨2, some 10, none, .call (.tmp 8) [(.tmp 9)], [3]⟩,
      ⟨5, some 13, none, .call (.tmp 11) [(.tmp 12)], []⟩,
      ⟨8, none, none, .op .hard (oStore 2 (.tmp 6) (.tmp 10)), []⟩,
      ⟨9, none, none, .op .hard (oStore 2 (.tmp 7) (.tmp 13)), []⟩])
    (.seq
     (.drawn [⟨0, some 14, none, .op .quiet (oFieldAddr 0 (.tmp 6)), []⟩,
       ⟨1, some 15, none, .op .reads (oLoad (.tmp 14)), []⟩,
       ⟨2, some 16, none, .op .quiet (oFieldAddr 0 (.tmp 7)), []⟩,
       ⟨3, some 17, none, .op .reads (oLoad (.tmp 16)), []⟩,
       ⟨5, some 19, none, .op .quiet (oFieldAddr 1 (.tmp 6)), []⟩,
       ⟨6, some 20, none, .op .reads (oLoad (.tmp 19)), []⟩,
       ⟨7, some 21, none, .op .quiet (oFieldAddr 1 (.tmp 7)), []⟩,
       ⟨8, some 22, none, .op .reads (oLoad (.tmp 21)), []⟩,
       ⟨4, some 18, none, .callF 271 [(.tmp 15), (.tmp 17)], [6, 8]⟩,
       ⟨9, some 23, none, .callF 271 [(.tmp 20), (.tmp 22)], []⟩,
       ⟨10, some 24, none, .op .quiet (oBuildSlice 1 2 [(.int .i64 0)] [(0, 1), (1, 1)] [(.tmp 18), (.tmp 23)]), []⟩,
       ⟨11, some 25, none, .callF 270 [(.tmp 24)], []⟩,
       ⟨12, some 5, none, .op .quiet (oMv (.tmp 25)), []⟩])
     (.ret))))⟩
/-- tangram/tri.Full -/
noncomputable def a325 : AF := ⟨[.tmp 4, .tmp 5],
 (.seq
   (.ops [⟨0, some 2, none, .op .quiet (oBox (.tmp 0)), []⟩,
     ⟨1, some 4, none, .op .quiet (oMv (.val (.bool false))), []⟩,
     ⟨2, some 5, none, .op .quiet (oMv (.val (.int .i64 0))), []⟩])
   (.seq
    (.seq
     (.ops [⟨0, some 9, none, .op .reads (oLoadN 2 (.tmp 2)), []⟩,
       ⟨1, some 10, none, .op .quiet (oMv (.tmp 1)), []⟩,
       ⟨2, some 11, none, .callF 53 [(.tmp 9), (.tmp 10)], []⟩,
       ⟨3, some 8, none, .op .quiet (oMv (.tmp 11)), []⟩,
       ⟨4, some 12, none, .op .quiet (oExtract 0 (.tmp 8)), []⟩,
       ⟨5, some 13, none, .op .quiet (oExtract 1 (.tmp 8)), []⟩,
       ⟨6, some 6, none, .op .quiet (oMv (.tmp 12)), []⟩,
       ⟨7, some 7, none, .op .quiet (oMv (.tmp 13)), []⟩])
     (.seq
      (.ops [⟨0, some 14, none, .op .quiet (oMv (.tmp 7)), []⟩,
        ⟨1, some 15, none, .op .quiet (oArith .neq (.tmp 14) (.val (.int .i64 0))), []⟩])
      (.cond (.tmp 15)
       (.seq
        (.ops [⟨0, some 16, none, .op .quiet (oMv (.tmp 7)), []⟩,
          ⟨1, some 4, none, .op .quiet (oMv (.val (.bool false))), []⟩,
          ⟨2, some 5, none, .op .quiet (oMv (.tmp 16)), []⟩])
        (.ret))
       (.skip))))
    (.seq
     (.ops [⟨0, some 17, none, .op .quiet (oFieldAddr 0 (.tmp 2)), []⟩,
       ⟨1, some 18, none, .op .reads (oLoad (.tmp 17)), []⟩,
       ⟨2, some 19, none, .op .quiet (oArith .geq (.tmp 18) (.val (.int .i64 3))), []⟩,
       ⟨3, some 20, none, .op .quiet (oMv (.tmp 19)), []⟩,
       ⟨4, some 21, some (20, true), .op .quiet (oFieldAddr 1 (.tmp 2)), []⟩,
       ⟨5, some 22, some (20, true), .op .reads (oLoad (.tmp 21)), []⟩,
       ⟨6, some 23, some (20, true), .op .reads (oLen .slice (.tmp 22)), []⟩,
       ⟨7, some 24, some (20, true), .op .quiet (oFieldAddr 0 (.tmp 2)), []⟩,
       ⟨8, some 25, some (20, true), .op .reads (oLoad (.tmp 24)), []⟩,
       ⟨9, some 26, some (20, true), .op .quiet (oArith .mul (.val (.int .i64 3)) (.tmp 25)), []⟩,
       ⟨10, some 27, some (20, true), .op .quiet (oArith .sub (.tmp 26) (.val (.int .i64 6))), []⟩,
       ⟨11, some 28, some (20, true), .op .quiet (oArith .eql (.tmp 23) (.tmp 27)), []⟩,
       ⟨12, some 29, none, .op .quiet (oPick (.tmp 20) (.tmp 28) (.val (.bool false))), []⟩,
       ⟨13, some 30, none, .op .quiet (oMv (.tmp 29)), []⟩,
       ⟨14, some 31, some (30, true), .op .reads (oLoadN 2 (.tmp 2)), []⟩,
       ⟨15, some 32, some (30, true), .op .quiet (oMv (.tmp 1)), []⟩,
       ⟨16, some 33, some (30, true), .callF 55 [(.tmp 31), (.tmp 32)], []⟩,
       ⟨17, some 34, none, .op .quiet (oPick (.tmp 30) (.tmp 33) (.val (.bool false))), []⟩,
       ⟨18, some 4, none, .op .quiet (oMv (.tmp 34)), []⟩,
       ⟨19, some 5, none, .op .quiet (oMv (.val (.int .i64 0))), []⟩])
     (.ret))))⟩
/-- tangram/order.ends -/
noncomputable def a326 : AF := ⟨[.tmp 4, .tmp 5],
 (.seq
   (.ops [⟨0, some 2, none, .op .quiet (oBox (.tmp 0)), []⟩,
     ⟨1, some 4, none, .op .quiet (oMv (.val (.int .i64 0))), []⟩,
     ⟨2, some 5, none, .op .quiet (oMv (.val (.int .i64 0))), []⟩])
   (.seq
    (.ops [⟨0, some 7, none, .op .quiet (oFieldAddr 1 (.tmp 2)), []⟩,
      ⟨1, some 8, none, .op .reads (oLoad (.tmp 7)), []⟩,
      ⟨2, some 9, none, .op .quiet (oMv (.tmp 1)), []⟩,
      ⟨3, some 10, none, .op .quiet (oArith .quo (.tmp 9) (.val (.int .i64 2))), []⟩,
      ⟨4, some 11, none, .op .quiet (oIdxS 2 (.tmp 8) (.tmp 10)), []⟩,
      ⟨5, some 12, none, .op .reads (oLoadN 2 (.tmp 11)), []⟩,
      ⟨6, some 6, none, .op .quiet (oAlloc [(.int .i64 0), (.int .i64 0)]), []⟩,
      ⟨7, none, none, .op .hard (oStore 2 (.tmp 6) (.tmp 12)), []⟩])
    (.seq
     (.seq
      (.ops [⟨0, some 13, none, .op .quiet (oMv (.tmp 1)), []⟩,
        ⟨1, some 14, none, .op .quiet (oArith .rem (.tmp 13) (.val (.int .i64 2))), []⟩,
        ⟨2, some 15, none, .op .quiet (oArith .eql (.tmp 14) (.val (.int .i64 0))), []⟩])
      (.cond (.tmp 15)
       (.seq
        (.drawn [⟨0, some 16, none, .op .quiet (oFieldAddr 0 (.tmp 6)), []⟩,
          ⟨1, some 17, none, .op .reads (oLoad (.tmp 16)), []⟩,
          ⟨2, some 18, none, .op .quiet (oFieldAddr 1 (.tmp 6)), []⟩,
          ⟨3, some 19, none, .op .reads (oLoad (.tmp 18)), []⟩,
          ⟨4, some 4, none, .op .quiet (oMv (.tmp 17)), []⟩,
          ⟨5, some 5, none, .op .quiet (oMv (.tmp 19)), []⟩])
        (.ret))
       (.skip)))
     (.seq
      (.drawn [⟨0, some 20, none, .op .quiet (oFieldAddr 1 (.tmp 6)), []⟩,
        ⟨1, some 21, none, .op .reads (oLoad (.tmp 20)), []⟩,
        ⟨2, some 22, none, .op .quiet (oFieldAddr 0 (.tmp 6)), []⟩,
        ⟨3, some 23, none, .op .reads (oLoad (.tmp 22)), []⟩,
        ⟨4, some 4, none, .op .quiet (oMv (.tmp 21)), []⟩,
        ⟨5, some 5, none, .op .quiet (oMv (.tmp 23)), []⟩])
      (.ret)))))⟩
/-- (*tangram/order.peel).between -/
noncomputable def a327 : AF := ⟨[.tmp 4],
 (.seq
   (.ops [⟨0, some 4, none, .op .quiet (oMv (.val (.slice none 0 0))), []⟩])
   (.seq
    (.ops [⟨0, some 5, none, .op .quiet (oMv (.val (.slice none 0 0))), []⟩])
    (.seq
     (.seq
      (.ops [⟨0, some 13, none, .op .quiet (oMv (.tmp 0)), []⟩,
        ⟨1, some 14, none, .op .quiet (oNilCheck (.tmp 13)), []⟩,
        ⟨2, some 15, none, .op .quiet (oFieldAddr 0 (.tmp 14)), []⟩,
        ⟨3, some 16, none, .op .reads (oLoad (.tmp 15)), []⟩,
        ⟨4, some 17, none, .op .quiet (oNilCheck (.tmp 16)), []⟩,
        ⟨5, some 18, none, .op .quiet (oFieldAddr 2 (.tmp 17)), []⟩,
        ⟨6, some 19, none, .op .reads (oLoad (.tmp 18)), []⟩,
        ⟨7, some 20, none, .op .quiet (oMv (.tmp 1)), []⟩,
        ⟨8, some 21, none, .op .quiet (oIdxS 1 (.tmp 19) (.tmp 20)), []⟩,
        ⟨9, some 22, none, .op .reads (oLoad (.tmp 21)), []⟩,
        ⟨10, some 23, none, .op .reads (oLen .slice (.tmp 22)), []⟩,
        ⟨11, some 24, none, .op .quiet (oMv (.val (.int .i64 0))), []⟩])
      (.block 0
       (.loop
        (.seq
         (.ops [⟨0, some 25, none, .op .quiet (oArith .lss (.tmp 24) (.tmp 23)), []⟩])
         (.seq
          (.cond (.tmp 25)
           (.skip)
           (.exit 0))
          (.seq
           (.block 1
            (.seq
             (.ops [⟨0, some 26, none, .op .quiet (oIdxS 1 (.tmp 22) (.tmp 24)), []⟩,
               ⟨1, some 27, none, .op .reads (oLoad (.tmp 26)), []⟩,
               ⟨2, some 7, none, .op .quiet (oMv (.tmp 27)), []⟩])
             (.seq
              (.ops [⟨0, some 28, none, .op .quiet (oMv (.tmp 0)), []⟩,
                ⟨1, some 29, none, .op .quiet (oNilCheck (.tmp 28)), []⟩,
                ⟨2, some 30, none, .op .quiet (oFieldAddr 1 (.tmp 29)), []⟩,
                ⟨3, some 31, none, .op .reads (oLoad (.tmp 30)), []⟩,
                ⟨4, some 32, none, .op .quiet (oMv (.tmp 7)), []⟩,
                ⟨5, some 33, none, .op .quiet (oIdxS 1 (.tmp 31) (.tmp 32)), []⟩,
                ⟨6, some 34, none, .op .reads (oLoad (.tmp 33)), []⟩,
                ⟨7, some 35, none, .op .quiet (oArith .neq (.tmp 34) (.val (.int .i64 2))), []⟩])
              (.cond (.tmp 35)
               (.ops [⟨0, some 36, none, .op .quiet (oMv (.tmp 5)), []⟩,
                 ⟨1, some 37, none, .op .quiet (oMv (.tmp 7)), []⟩,
                 ⟨2, some 38, none, .op .quiet (oBuildSlice 1 1 [(.int .i64 0)] [(0, 1)] [(.tmp 37)]), []⟩,
                 ⟨3, some 39, none, .op .hard (oAppend 1 8 (.tmp 36) (.tmp 38)), []⟩,
                 ⟨4, some 5, none, .op .quiet (oMv (.tmp 39)), []⟩])
               (.skip)))))
           (.ops [⟨0, some 40, none, .op .quiet (oArith .add (.tmp 24) (.val (.int .i64 1))), []⟩,
             ⟨1, some 24, none, .op .quiet (oMv (.tmp 40)), []⟩])))))))
     (.seq
      (.ops [⟨0, some 41, none, .op .quiet (oMv (.tmp 5)), []⟩,
        ⟨1, some 42, none, .op .reads (oLen .slice (.tmp 41)), []⟩,
        ⟨2, some 8, none, .op .quiet (oMv (.val (.int .i64 0))), []⟩,
        ⟨3, some 9, none, .op .quiet (oMv (.tmp 42)), []⟩])
      (.seq
       (.block 2
        (.loop
         (.seq
          (.seq
           (.drawn [⟨0, some 43, none, .op .quiet (oMv (.tmp 5)), []⟩,
             ⟨1, some 44, none, .op .quiet (oMv (.tmp 8)), []⟩,
             ⟨2, some 45, none, .op .quiet (oIdxS 1 (.tmp 43) (.tmp 44)), []⟩,
             ⟨3, some 46, none, .op .reads (oLoad (.tmp 45)), []⟩,
             ⟨4, some 47, none, .op .quiet (oMv (.tmp 0)), []⟩,
             ⟨5, some 48, none, .op .quiet (oNilCheck (.tmp 47)), []⟩,
             ⟨6, some 49, none, .op .quiet (oFieldAddr 3 (.tmp 48)), []⟩,
             ⟨7, some 50, none, .op .reads (oLoad (.tmp 49)), []⟩,
             ⟨8, some 51, none, .op .quiet (oMv (.tmp 1)), []⟩,
             ⟨9, some 52, none, .op .quiet (oIdxS 1 (.tmp 50) (.tmp 51)), []⟩,
             ⟨10, some 53, none, .op .reads (oLoad (.tmp 52)), []⟩,
             ⟨11, some 54, none, .op .quiet (oArith .neq (.tmp 46) (.tmp 53)), []⟩])
           (.cond (.tmp 54)
            (.skip)
            (.exit 2)))
          (.block 3
           (.ops [⟨0, some 55, none, .op .quiet (oMv (.tmp 8)), []⟩,
             ⟨1, some 56, none, .op .quiet (oArith .add (.tmp 55) (.val (.int .i64 1))), []⟩,
             ⟨2, some 8, none, .op .quiet (oMv (.tmp 56)), []⟩])))))
       (.seq
        (.ops [⟨0, some 10, none, .op .quiet (oMv (.val (.int .i64 1))), []⟩])
        (.seq
         (.seq
          (.drawn [⟨0, some 57, none, .op .quiet (oMv (.tmp 5)), []⟩,
            ⟨1, some 58, none, .op .quiet (oMv (.tmp 8)), []⟩,
            ⟨2, some 59, none, .op .quiet (oMv (.tmp 9)), []⟩,
            ⟨3, some 60, none, .op .quiet (oArith .add (.tmp 58) (.tmp 59)), []⟩,
            ⟨4, some 61, none, .op .quiet (oArith .sub (.tmp 60) (.val (.int .i64 1))), []⟩,
            ⟨5, some 62, none, .op .quiet (oMv (.tmp 9)), []⟩,
            ⟨6, some 63, none, .op .quiet (oArith .rem (.tmp 61) (.tmp 62)), []⟩,
            ⟨7, some 64, none, .op .quiet (oIdxS 1 (.tmp 57) (.tmp 63)), []⟩,
            ⟨8, some 65, none, .op .reads (oLoad (.tmp 64)), []⟩,
            ⟨9, some 66, none, .op .quiet (oMv (.tmp 0)), []⟩,
            ⟨10, some 67, none, .op .quiet (oNilCheck (.tmp 66)), []⟩,
            ⟨11, some 68, none, .op .quiet (oFieldAddr 2 (.tmp 67)), []⟩,
            ⟨12, some 69, none, .op .reads (oLoad (.tmp 68)), []⟩,
            ⟨13, some 70, none, .op .quiet (oMv (.tmp 1)), []⟩,
            ⟨14, some 71, none, .op .quiet (oIdxS 1 (.tmp 69) (.tmp 70)), []⟩,
            ⟨15, some 72, none, .op .reads (oLoad (.tmp 71)), []⟩,
            ⟨16, some 73, none, .op .quiet (oArith .neq (.tmp 65) (.tmp 72)), []⟩])
          (.cond (.tmp 73)
           (.ops [⟨0, some 74, none, .op .quiet (oMv (.tmp 9)), []⟩,
             ⟨1, some 75, none, .op .quiet (oArith .sub (.tmp 74) (.val (.int .i64 1))), []⟩,
             ⟨2, some 10, none, .op .quiet (oMv (.tmp 75)), []⟩])
           (.skip)))
         (.seq
          (.ops [⟨0, some 11, none, .op .quiet (oMv (.val (.slice none 0 0))), []⟩])
          (.seq
           (.seq
            (.ops [⟨0, some 76, none, .op .quiet (oMv (.tmp 9)), []⟩,
              ⟨1, some 77, none, .op .quiet (oMv (.val (.int .i64 0))), []⟩])
            (.block 4
             (.loop
              (.seq
               (.ops [⟨0, some 78, none, .op .quiet (oArith .lss (.tmp 77) (.tmp 76)), []⟩])
               (.seq
                (.cond (.tmp 78)
                 (.skip)
                 (.exit 4))
                (.seq
                 (.block 5
                  (.seq
                   (.ops [⟨0, some 79, none, .op .quiet (oMv (.tmp 77)), []⟩,
                     ⟨1, some 12, none, .op .quiet (oMv (.tmp 79)), []⟩])
                   (.ops [⟨0, some 80, none, .op .quiet (oMv (.tmp 11)), []⟩,
                     ⟨1, some 81, none, .op .quiet (oMv (.tmp 5)), []⟩,
                     ⟨2, some 82, none, .op .quiet (oMv (.tmp 8)), []⟩,
                     ⟨3, some 83, none, .op .quiet (oMv (.tmp 12)), []⟩,
                     ⟨4, some 84, none, .op .quiet (oMv (.tmp 10)), []⟩,
                     ⟨5, some 85, none, .op .quiet (oArith .mul (.tmp 83) (.tmp 84)), []⟩,
                     ⟨6, some 86, none, .op .quiet (oArith .add (.tmp 82) (.tmp 85)), []⟩,
                     ⟨7, some 87, none, .op .quiet (oMv (.tmp 9)), []⟩,
                     ⟨8, some 88, none, .op .quiet (oArith .rem (.tmp 86) (.tmp 87)), []⟩,
                     ⟨9, some 89, none, .op .quiet (oIdxS 1 (.tmp 81) (.tmp 88)), []⟩,
                     ⟨10, some 90, none, .op .reads (oLoad (.tmp 89)), []⟩,
                     ⟨11, some 91, none, .op .quiet (oBuildSlice 1 1 [(.int .i64 0)] [(0, 1)] [(.tmp 90)]), []⟩,
                     ⟨12, some 92, none, .op .hard (oAppend 1 8 (.tmp 80) (.tmp 91)), []⟩,
                     ⟨13, some 11, none, .op .quiet (oMv (.tmp 92)), []⟩])))
                 (.ops [⟨0, some 93, none, .op .quiet (oArith .add (.tmp 77) (.val (.int .i64 1))), []⟩,
                   ⟨1, some 77, none, .op .quiet (oMv (.tmp 93)), []⟩])))))))
           (.seq
            (.ops [⟨0, some 94, none, .op .quiet (oMv (.tmp 11)), []⟩,
              ⟨1, some 4, none, .op .quiet (oMv (.tmp 94)), []⟩])
            (.ret)))))))))))⟩
end Go.Proofs.YtjfppkhaiooloaaGreatDoor.Gs

/- The code of the functions, for the interpreter. -/
import Derived.Test.YtjfppkhaiooloaaGreatDoorAiB
namespace Go.Proofs.YtjfppkhaiooloaaGreatDoor.On
open Go.AI
set_option maxRecDepth 100000
/-- slices.reverseRangeOrdered[int] -/
noncomputable def a355 : AF := ⟨[],
 (.seq
   (.ops [⟨0, some 8, none, .op .quiet (oMv (.tmp 1)), []⟩,
     ⟨1, some 6, none, .op .quiet (oMv (.tmp 8)), []⟩])
   (.seq
    (.ops [⟨0, some 9, none, .op .quiet (oMv (.tmp 2)), []⟩,
      ⟨1, some 10, none, .op .quiet (oArith .sub (.tmp 9) (.val (.int .i64 1))), []⟩,
      ⟨2, some 7, none, .op .quiet (oMv (.tmp 10)), []⟩])
    (.block 0
     (.loop
      (.seq
       (.seq
        (.ops [⟨0, some 11, none, .op .quiet (oMv (.tmp 6)), []⟩,
          ⟨1, some 12, none, .op .quiet (oMv (.tmp 7)), []⟩,
          ⟨2, some 13, none, .op .quiet (oArith .lss (.tmp 11) (.tmp 12)), []⟩])
        (.cond (.tmp 13)
         (.skip)
         (.exit 0)))
       (.block 1
        (.seq
         (.drawn [⟨0, some 14, none, .op .quiet (oMv (.tmp 0)), []⟩,
           ⟨1, some 15, none, .op .quiet (oMv (.tmp 6)), []⟩,
           ⟨2, some 16, none, .op .quiet (oMv (.tmp 0)), []⟩,
           ⟨3, some 17, none, .op .quiet (oMv (.tmp 7)), []⟩,
           ⟨4, some 18, none, .op .quiet (oMv (.tmp 0)), []⟩,
           ⟨5, some 19, none, .op .quiet (oMv (.tmp 7)), []⟩,
           ⟨6, some 20, none, .op .quiet (oIdxS 1 (.tmp 18) (.tmp 19)), []⟩,
           ⟨7, some 21, none, .op .reads (oLoad (.tmp 20)), []⟩,
           ⟨8, some 22, none, .op .quiet (oMv (.tmp 0)), []⟩,
           ⟨9, some 23, none, .op .quiet (oMv (.tmp 6)), []⟩,
           ⟨10, some 24, none, .op .quiet (oIdxS 1 (.tmp 22) (.tmp 23)), []⟩,
           ⟨11, some 25, none, .op .reads (oLoad (.tmp 24)), []⟩,
           ⟨12, some 26, none, .op .quiet (oIdxS 1 (.tmp 14) (.tmp 15)), []⟩,
           ⟨13, none, none, .op .hard (oStore 1 (.tmp 26) (.tmp 21)), []⟩,
           ⟨14, some 27, none, .op .quiet (oIdxS 1 (.tmp 16) (.tmp 17)), []⟩,
           ⟨15, none, none, .op .hard (oStore 1 (.tmp 27) (.tmp 25)), []⟩])
         (.seq
          (.ops [⟨0, some 28, none, .op .quiet (oMv (.tmp 6)), []⟩,
            ⟨1, some 29, none, .op .quiet (oArith .add (.tmp 28) (.val (.int .i64 1))), []⟩,
            ⟨2, some 6, none, .op .quiet (oMv (.tmp 29)), []⟩])
          (.ops [⟨0, some 30, none, .op .quiet (oMv (.tmp 7)), []⟩,
            ⟨1, some 31, none, .op .quiet (oArith .sub (.tmp 30) (.val (.int .i64 1))), []⟩,
            ⟨2, some 7, none, .op .quiet (oMv (.tmp 31)), []⟩])))))))))⟩
/-- slices.partialInsertionSortOrdered[int] -/
noncomputable def a356 : AF := ⟨[.tmp 6],
 (.seq
   (.ops [⟨0, some 6, none, .op .quiet (oMv (.val (.bool false))), []⟩])
   (.seq
    (.ops [⟨0, some 11, none, .op .quiet (oMv (.tmp 1)), []⟩,
      ⟨1, some 12, none, .op .quiet (oArith .add (.tmp 11) (.val (.int .i64 1))), []⟩,
      ⟨2, some 7, none, .op .quiet (oMv (.tmp 12)), []⟩])
    (.seq
     (.seq
      (.ops [⟨0, some 8, none, .op .quiet (oMv (.val (.int .i64 0))), []⟩])
      (.block 0
       (.loop
        (.seq
         (.seq
          (.ops [⟨0, some 13, none, .op .quiet (oMv (.tmp 8)), []⟩,
            ⟨1, some 14, none, .op .quiet (oArith .lss (.tmp 13) (.val (.int .i64 5))), []⟩])
          (.cond (.tmp 14)
           (.skip)
           (.exit 0)))
         (.seq
          (.block 1
           (.seq
            (.block 2
             (.loop
              (.seq
               (.seq
                (.drawn [⟨0, some 17, none, .op .quiet (oMv (.tmp 7)), []⟩,
                  ⟨1, some 18, none, .op .quiet (oMv (.tmp 2)), []⟩,
                  ⟨2, some 19, none, .op .quiet (oArith .lss (.tmp 17) (.tmp 18)), []⟩,
                  ⟨3, some 20, none, .op .quiet (oMv (.tmp 19)), []⟩,
                  ⟨4, some 21, some (20, true), .op .quiet (oMv (.tmp 0)), []⟩,
                  ⟨5, some 22, some (20, true), .op .quiet (oMv (.tmp 7)), []⟩,
                  ⟨6, some 23, some (20, true), .op .quiet (oIdxS 1 (.tmp 21) (.tmp 22)), []⟩,
                  ⟨7, some 24, some (20, true), .op .reads (oLoad (.tmp 23)), []⟩,
                  ⟨8, some 25, some (20, true), .op .quiet (oMv (.tmp 0)), []⟩,
                  ⟨9, some 26, some (20, true), .op .quiet (oMv (.tmp 7)), []⟩,
                  ⟨10, some 27, some (20, true), .op .quiet (oArith .sub (.tmp 26) (.val (.int .i64 1))), []⟩,
                  ⟨11, some 28, some (20, true), .op .quiet (oIdxS 1 (.tmp 25) (.tmp 27)), []⟩,
                  ⟨12, some 29, some (20, true), .op .reads (oLoad (.tmp 28)), []⟩,
                  ⟨13, some 30, some (20, true), .callF 357 [(.tmp 24), (.tmp 29)], []⟩,
                  ⟨14, some 31, some (20, true), .op .quiet (oNot (.tmp 30)), []⟩,
                  ⟨15, some 32, none, .op .quiet (oPick (.tmp 20) (.tmp 31) (.val (.bool false))), []⟩])
                (.cond (.tmp 32)
                 (.skip)
                 (.exit 2)))
               (.block 3
                (.ops [⟨0, some 33, none, .op .quiet (oMv (.tmp 7)), []⟩,
                  ⟨1, some 34, none, .op .quiet (oArith .add (.tmp 33) (.val (.int .i64 1))), []⟩,
                  ⟨2, some 7, none, .op .quiet (oMv (.tmp 34)), []⟩])))))
            (.seq
             (.seq
              (.ops [⟨0, some 35, none, .op .quiet (oMv (.tmp 7)), []⟩,
                ⟨1, some 36, none, .op .quiet (oMv (.tmp 2)), []⟩,
                ⟨2, some 37, none, .op .quiet (oArith .eql (.tmp 35) (.tmp 36)), []⟩])
              (.cond (.tmp 37)
               (.seq
                (.ops [⟨0, some 6, none, .op .quiet (oMv (.val (.bool true))), []⟩])
                (.ret))
               (.skip)))
             (.seq
              (.seq
               (.ops [⟨0, some 38, none, .op .quiet (oMv (.tmp 2)), []⟩,
                 ⟨1, some 39, none, .op .quiet (oMv (.tmp 1)), []⟩,
                 ⟨2, some 40, none, .op .quiet (oArith .sub (.tmp 38) (.tmp 39)), []⟩,
                 ⟨3, some 41, none, .op .quiet (oArith .lss (.tmp 40) (.val (.int .i64 50))), []⟩])
               (.cond (.tmp 41)
                (.seq
                 (.ops [⟨0, some 6, none, .op .quiet (oMv (.val (.bool false))), []⟩])
                 (.ret))
                (.skip)))
              (.seq
               (.drawn [⟨0, some 42, none, .op .quiet (oMv (.tmp 0)), []⟩,
                 ⟨1, some 43, none, .op .quiet (oMv (.tmp 7)), []⟩,
                 ⟨2, some 44, none, .op .quiet (oMv (.tmp 0)), []⟩,
                 ⟨3, some 45, none, .op .quiet (oMv (.tmp 7)), []⟩,
                 ⟨4, some 46, none, .op .quiet (oArith .sub (.tmp 45) (.val (.int .i64 1))), []⟩,
                 ⟨5, some 47, none, .op .quiet (oMv (.tmp 0)), []⟩,
                 ⟨6, some 48, none, .op .quiet (oMv (.tmp 7)), []⟩,
                 ⟨7, some 49, none, .op .quiet (oArith .sub (.tmp 48) (.val (.int .i64 1))), []⟩,
                 ⟨8, some 50, none, .op .quiet (oIdxS 1 (.tmp 47) (.tmp 49)), []⟩,
                 ⟨9, some 51, none, .op .reads (oLoad (.tmp 50)), []⟩,
                 ⟨10, some 52, none, .op .quiet (oMv (.tmp 0)), []⟩,
                 ⟨11, some 53, none, .op .quiet (oMv (.tmp 7)), []⟩,
                 ⟨12, some 54, none, .op .quiet (oIdxS 1 (.tmp 52) (.tmp 53)), []⟩,
                 ⟨13, some 55, none, .op .reads (oLoad (.tmp 54)), []⟩,
                 ⟨14, some 56, none, .op .quiet (oIdxS 1 (.tmp 42) (.tmp 43)), []⟩,
                 ⟨15, none, none, .op .hard (oStore 1 (.tmp 56) (.tmp 51)), []⟩,
                 ⟨16, some 57, none, .op .quiet (oIdxS 1 (.tmp 44) (.tmp 46)), []⟩,
                 ⟨17, none, none, .op .hard (oStore 1 (.tmp 57) (.tmp 55)), []⟩])
               (.seq
                (.seq
                 (.ops [⟨0, some 58, none, .op .quiet (oMv (.tmp 7)), []⟩,
                   ⟨1, some 59, none, .op .quiet (oMv (.tmp 1)), []⟩,
                   ⟨2, some 60, none, .op .quiet (oArith .sub (.tmp 58) (.tmp 59)), []⟩,
                   ⟨3, some 61, none, .op .quiet (oArith .geq (.tmp 60) (.val (.int .i64 2))), []⟩])
                 (.cond (.tmp 61)
                  (.seq
                   (.ops [⟨0, some 62, none, .op .quiet (oMv (.tmp 7)), []⟩,
                     ⟨1, some 63, none, .op .quiet (oArith .sub (.tmp 62) (.val (.int .i64 1))), []⟩,
                     ⟨2, some 9, none, .op .quiet (oMv (.tmp 63)), []⟩])
                   (.block 4
                    (.loop
                     (.seq
                      (.seq
                       (.ops [⟨0, some 64, none, .op .quiet (oMv (.tmp 9)), []⟩,
                         ⟨1, some 65, none, .op .quiet (oArith .geq (.tmp 64) (.val (.int .i64 1))), []⟩])
                       (.cond (.tmp 65)
                        (.skip)
                        (.exit 4)))
                      (.seq
                       (.block 5
                        (.seq
                         (.seq
                          (.drawn [⟨0, some 68, none, .op .quiet (oMv (.tmp 0)), []⟩,
                            ⟨1, some 69, none, .op .quiet (oMv (.tmp 9)), []⟩,
                            ⟨2, some 70, none, .op .quiet (oIdxS 1 (.tmp 68) (.tmp 69)), []⟩,
                            ⟨3, some 71, none, .op .reads (oLoad (.tmp 70)), []⟩,
                            ⟨4, some 72, none, .op .quiet (oMv (.tmp 0)), []⟩,
                            ⟨5, some 73, none, .op .quiet (oMv (.tmp 9)), []⟩,
                            ⟨6, some 74, none, .op .quiet (oArith .sub (.tmp 73) (.val (.int .i64 1))), []⟩,
                            ⟨7, some 75, none, .op .quiet (oIdxS 1 (.tmp 72) (.tmp 74)), []⟩,
                            ⟨8, some 76, none, .op .reads (oLoad (.tmp 75)), []⟩,
                            ⟨9, some 77, none, .callF 357 [(.tmp 71), (.tmp 76)], []⟩,
                            ⟨10, some 78, none, .op .quiet (oNot (.tmp 77)), []⟩])
                          (.cond (.tmp 78)
                           (.exit 4)
                           (.skip)))
                         (.drawn [⟨0, some 79, none, .op .quiet (oMv (.tmp 0)), []⟩,
                           ⟨1, some 80, none, .op .quiet (oMv (.tmp 9)), []⟩,
                           ⟨2, some 81, none, .op .quiet (oMv (.tmp 0)), []⟩,
                           ⟨3, some 82, none, .op .quiet (oMv (.tmp 9)), []⟩,
                           ⟨4, some 83, none, .op .quiet (oArith .sub (.tmp 82) (.val (.int .i64 1))), []⟩,
                           ⟨5, some 84, none, .op .quiet (oMv (.tmp 0)), []⟩,
                           ⟨6, some 85, none, .op .quiet (oMv (.tmp 9)), []⟩,
                           ⟨7, some 86, none, .op .quiet (oArith .sub (.tmp 85) (.val (.int .i64 1))), []⟩,
                           ⟨8, some 87, none, .op .quiet (oIdxS 1 (.tmp 84) (.tmp 86)), []⟩,
                           ⟨9, some 88, none, .op .reads (oLoad (.tmp 87)), []⟩,
                           ⟨10, some 89, none, .op .quiet (oMv (.tmp 0)), []⟩,
                           ⟨11, some 90, none, .op .quiet (oMv (.tmp 9)), []⟩,
                           ⟨12, some 91, none, .op .quiet (oIdxS 1 (.tmp 89) (.tmp 90)), []⟩,
                           ⟨13, some 92, none, .op .reads (oLoad (.tmp 91)), []⟩,
                           ⟨14, some 93, none, .op .quiet (oIdxS 1 (.tmp 79) (.tmp 80)), []⟩,
                           ⟨15, none, none, .op .hard (oStore 1 (.tmp 93) (.tmp 88)), []⟩,
                           ⟨16, some 94, none, .op .quiet (oIdxS 1 (.tmp 81) (.tmp 83)), []⟩,
                           ⟨17, none, none, .op .hard (oStore 1 (.tmp 94) (.tmp 92)), []⟩])))
                       (.ops [⟨0, some 66, none, .op .quiet (oMv (.tmp 9)), []⟩,
                         ⟨1, some 67, none, .op .quiet (oArith .sub (.tmp 66) (.val (.int .i64 1))), []⟩,
                         ⟨2, some 9, none, .op .quiet (oMv (.tmp 67)), []⟩]))))))
                  (.skip)))
                (.seq
                 (.ops [⟨0, some 95, none, .op .quiet (oMv (.tmp 2)), []⟩,
                   ⟨1, some 96, none, .op .quiet (oMv (.tmp 7)), []⟩,
                   ⟨2, some 97, none, .op .quiet (oArith .sub (.tmp 95) (.tmp 96)), []⟩,
                   ⟨3, some 98, none, .op .quiet (oArith .geq (.tmp 97) (.val (.int .i64 2))), []⟩])
                 (.cond (.tmp 98)
                  (.seq
                   (.ops [⟨0, some 99, none, .op .quiet (oMv (.tmp 7)), []⟩,
                     ⟨1, some 100, none, .op .quiet (oArith .add (.tmp 99) (.val (.int .i64 1))), []⟩,
                     ⟨2, some 10, none, .op .quiet (oMv (.tmp 100)), []⟩])
                   (.block 6
                    (.loop
                     (.seq
                      (.seq
                       (.ops [⟨0, some 101, none, .op .quiet (oMv (.tmp 10)), []⟩,
                         ⟨1, some 102, none, .op .quiet (oMv (.tmp 2)), []⟩,
                         ⟨2, some 103, none, .op .quiet (oArith .lss (.tmp 101) (.tmp 102)), []⟩])
                       (.cond (.tmp 103)
                        (.skip)
                        (.exit 6)))
                      (.seq
                       (.block 7
                        (.seq
                         (.seq
                          (.drawn [⟨0, some 106, none, .op .quiet (oMv (.tmp 0)), []⟩,
                            ⟨1, some 107, none, .op .quiet (oMv (.tmp 10)), []⟩,
                            ⟨2, some 108, none, .op .quiet (oIdxS 1 (.tmp 106) (.tmp 107)), []⟩,
                            ⟨3, some 109, none, .op .reads (oLoad (.tmp 108)), []⟩,
                            ⟨4, some 110, none, .op .quiet (oMv (.tmp 0)), []⟩,
                            ⟨5, some 111, none, .op .quiet (oMv (.tmp 10)), []⟩,
                            ⟨6, some 112, none, .op .quiet (oArith .sub (.tmp 111) (.val (.int .i64 1))), []⟩,
                            ⟨7, some 113, none, .op .quiet (oIdxS 1 (.tmp 110) (.tmp 112)), []⟩,
                            ⟨8, some 114, none, .op .reads (oLoad (.tmp 113)), []⟩,
                            ⟨9, some 115, none, .callF 357 [(.tmp 109), (.tmp 114)], []⟩,
                            ⟨10, some 116, none, .op .quiet (oNot (.tmp 115)), []⟩])
                          (.cond (.tmp 116)
                           (.exit 6)
                           (.skip)))
                         (.drawn [⟨0, some 117, none, .op .quiet (oMv (.tmp 0)), []⟩,
                           ⟨1, some 118, none, .op .quiet (oMv (.tmp 10)), []⟩,
                           ⟨2, some 119, none, .op .quiet (oMv (.tmp 0)), []⟩,
                           ⟨3, some 120, none, .op .quiet (oMv (.tmp 10)), []⟩,
                           ⟨4, some 121, none, .op .quiet (oArith .sub (.tmp 120) (.val (.int .i64 1))), []⟩,
                           ⟨5, some 122, none, .op .quiet (oMv (.tmp 0)), []⟩,
                           ⟨6, some 123, none, .op .quiet (oMv (.tmp 10)), []⟩,
                           ⟨7, some 124, none, .op .quiet (oArith .sub (.tmp 123) (.val (.int .i64 1))), []⟩,
                           ⟨8, some 125, none, .op .quiet (oIdxS 1 (.tmp 122) (.tmp 124)), []⟩,
                           ⟨9, some 126, none, .op .reads (oLoad (.tmp 125)), []⟩,
                           ⟨10, some 127, none, .op .quiet (oMv (.tmp 0)), []⟩,
                           ⟨11, some 128, none, .op .quiet (oMv (.tmp 10)), []⟩,
                           ⟨12, some 129, none, .op .quiet (oIdxS 1 (.tmp 127) (.tmp 128)), []⟩,
                           ⟨13, some 130, none, .op .reads (oLoad (.tmp 129)), []⟩,
                           ⟨14, some 131, none, .op .quiet (oIdxS 1 (.tmp 117) (.tmp 118)), []⟩,
                           ⟨15, none, none, .op .hard (oStore 1 (.tmp 131) (.tmp 126)), []⟩,
                           ⟨16, some 132, none, .op .quiet (oIdxS 1 (.tmp 119) (.tmp 121)), []⟩,
                           ⟨17, none, none, .op .hard (oStore 1 (.tmp 132) (.tmp 130)), []⟩])))
                       (.ops [⟨0, some 104, none, .op .quiet (oMv (.tmp 10)), []⟩,
                         ⟨1, some 105, none, .op .quiet (oArith .add (.tmp 104) (.val (.int .i64 1))), []⟩,
                         ⟨2, some 10, none, .op .quiet (oMv (.tmp 105)), []⟩]))))))
                  (.skip)))))))))
          (.ops [⟨0, some 15, none, .op .quiet (oMv (.tmp 8)), []⟩,
            ⟨1, some 16, none, .op .quiet (oArith .add (.tmp 15) (.val (.int .i64 1))), []⟩,
            ⟨2, some 8, none, .op .quiet (oMv (.tmp 16)), []⟩]))))))
     (.seq
      (.ops [⟨0, some 6, none, .op .quiet (oMv (.val (.bool false))), []⟩])
      (.ret)))))⟩
/-- cmp.Less[int] -/
noncomputable def a357 : AF := ⟨[.tmp 4],
 (.seq
   (.ops [⟨0, some 4, none, .op .quiet (oMv (.val (.bool false))), []⟩])
   (.seq
    (.ops [⟨0, some 5, none, .op .quiet (oMv (.tmp 0)), []⟩,
      ⟨1, some 6, none, .callF 317 [(.tmp 5)], []⟩,
      ⟨2, some 7, none, .op .quiet (oMv (.tmp 6)), []⟩,
      ⟨3, some 8, some (7, true), .op .quiet (oMv (.tmp 1)), []⟩,
      ⟨4, some 9, some (7, true), .callF 317 [(.tmp 8)], []⟩,
      ⟨5, some 10, some (7, true), .op .quiet (oNot (.tmp 9)), []⟩,
      ⟨6, some 11, none, .op .quiet (oPick (.tmp 7) (.tmp 10) (.val (.bool false))), []⟩,
      ⟨7, some 12, none, .op .quiet (oMv (.tmp 11)), []⟩,
      ⟨8, some 13, some (12, false), .op .quiet (oMv (.tmp 0)), []⟩,
      ⟨9, some 14, some (12, false), .op .quiet (oMv (.tmp 1)), []⟩,
      ⟨10, some 15, some (12, false), .op .quiet (oArith .lss (.tmp 13) (.tmp 14)), []⟩,
      ⟨11, some 16, none, .op .quiet (oPick (.tmp 12) (.val (.bool true)) (.tmp 15)), []⟩,
      ⟨12, some 4, none, .op .quiet (oMv (.tmp 16)), []⟩])
    (.ret)))⟩
/-- slices.partitionEqualOrdered[int] -/
noncomputable def a358 : AF := ⟨[.tmp 8],
 (.seq
   (.ops [⟨0, some 8, none, .op .quiet (oMv (.val (.int .i64 0))), []⟩])
   (.seq
    (.drawn [⟨0, some 11, none, .op .quiet (oMv (.tmp 0)), []⟩,
      ⟨1, some 12, none, .op .quiet (oMv (.tmp 1)), []⟩,
      ⟨2, some 13, none, .op .quiet (oMv (.tmp 0)), []⟩,
      ⟨3, some 14, none, .op .quiet (oMv (.tmp 3)), []⟩,
      ⟨4, some 15, none, .op .quiet (oMv (.tmp 0)), []⟩,
      ⟨5, some 16, none, .op .quiet (oMv (.tmp 3)), []⟩,
      ⟨6, some 17, none, .op .quiet (oIdxS 1 (.tmp 15) (.tmp 16)), []⟩,
      ⟨7, some 18, none, .op .reads (oLoad (.tmp 17)), []⟩,
      ⟨8, some 19, none, .op .quiet (oMv (.tmp 0)), []⟩,
      ⟨9, some 20, none, .op .quiet (oMv (.tmp 1)), []⟩,
      ⟨10, some 21, none, .op .quiet (oIdxS 1 (.tmp 19) (.tmp 20)), []⟩,
      ⟨11, some 22, none, .op .reads (oLoad (.tmp 21)), []⟩,
      ⟨12, some 23, none, .op .quiet (oIdxS 1 (.tmp 11) (.tmp 12)), []⟩,
      ⟨13, none, none, .op .hard (oStore 1 (.tmp 23) (.tmp 18)), []⟩,
      ⟨14, some 24, none, .op .quiet (oIdxS 1 (.tmp 13) (.tmp 14)), []⟩,
      ⟨15, none, none, .op .hard (oStore 1 (.tmp 24) (.tmp 22)), []⟩])
    (.seq
     (.ops [⟨0, some 25, none, .op .quiet (oMv (.tmp 1)), []⟩,
       ⟨1, some 26, none, .op .quiet (oArith .add (.tmp 25) (.val (.int .i64 1))), []⟩,
       ⟨2, some 27, none, .op .quiet (oMv (.tmp 2)), []⟩,
       ⟨3, some 28, none, .op .quiet (oArith .sub (.tmp 27) (.val (.int .i64 1))), []⟩,
       ⟨4, some 9, none, .op .quiet (oMv (.tmp 26)), []⟩,
       ⟨5, some 10, none, .op .quiet (oMv (.tmp 28)), []⟩])
     (.seq
      (.block 0
       (.loop
        (.block 1
         (.seq
          (.block 2
           (.loop
            (.seq
             (.seq
              (.drawn [⟨0, some 29, none, .op .quiet (oMv (.tmp 9)), []⟩,
                ⟨1, some 30, none, .op .quiet (oMv (.tmp 10)), []⟩,
                ⟨2, some 31, none, .op .quiet (oArith .leq (.tmp 29) (.tmp 30)), []⟩,
                ⟨3, some 32, none, .op .quiet (oMv (.tmp 31)), []⟩,
                ⟨4, some 33, some (32, true), .op .quiet (oMv (.tmp 0)), []⟩,
                ⟨5, some 34, some (32, true), .op .quiet (oMv (.tmp 1)), []⟩,
                ⟨6, some 35, some (32, true), .op .quiet (oIdxS 1 (.tmp 33) (.tmp 34)), []⟩,
                ⟨7, some 36, some (32, true), .op .reads (oLoad (.tmp 35)), []⟩,
                ⟨8, some 37, some (32, true), .op .quiet (oMv (.tmp 0)), []⟩,
                ⟨9, some 38, some (32, true), .op .quiet (oMv (.tmp 9)), []⟩,
                ⟨10, some 39, some (32, true), .op .quiet (oIdxS 1 (.tmp 37) (.tmp 38)), []⟩,
                ⟨11, some 40, some (32, true), .op .reads (oLoad (.tmp 39)), []⟩,
                ⟨12, some 41, some (32, true), .callF 357 [(.tmp 36), (.tmp 40)], []⟩,
                ⟨13, some 42, some (32, true), .op .quiet (oNot (.tmp 41)), []⟩,
                ⟨14, some 43, none, .op .quiet (oPick (.tmp 32) (.tmp 42) (.val (.bool false))), []⟩])
              (.cond (.tmp 43)
               (.skip)
               (.exit 2)))
             (.block 3
              (.ops [⟨0, some 44, none, .op .quiet (oMv (.tmp 9)), []⟩,
                ⟨1, some 45, none, .op .quiet (oArith .add (.tmp 44) (.val (.int .i64 1))), []⟩,
                ⟨2, some 9, none, .op .quiet (oMv (.tmp 45)), []⟩])))))
          (.seq
           (.block 4
            (.loop
             (.seq
              (.seq
               (.drawn [⟨0, some 46, none, .op .quiet (oMv (.tmp 9)), []⟩,
                 ⟨1, some 47, none, .op .quiet (oMv (.tmp 10)), []⟩,
                 ⟨2, some 48, none, .op .quiet (oArith .leq (.tmp 46) (.tmp 47)), []⟩,
                 ⟨3, some 49, none, .op .quiet (oMv (.tmp 48)), []⟩,
                 ⟨4, some 50, some (49, true), .op .quiet (oMv (.tmp 0)), []⟩,
                 ⟨5, some 51, some (49, true), .op .quiet (oMv (.tmp 1)), []⟩,
                 ⟨6, some 52, some (49, true), .op .quiet (oIdxS 1 (.tmp 50) (.tmp 51)), []⟩,
                 ⟨7, some 53, some (49, true), .op .reads (oLoad (.tmp 52)), []⟩,
                 ⟨8, some 54, some (49, true), .op .quiet (oMv (.tmp 0)), []⟩,
                 ⟨9, some 55, some (49, true), .op .quiet (oMv (.tmp 10)), []⟩,
                 ⟨10, some 56, some (49, true), .op .quiet (oIdxS 1 (.tmp 54) (.tmp 55)), []⟩,
                 ⟨11, some 57, some (49, true), .op .reads (oLoad (.tmp 56)), []⟩,
                 ⟨12, some 58, some (49, true), .callF 357 [(.tmp 53), (.tmp 57)], []⟩,
                 ⟨13, some 59, none, .op .quiet (oPick (.tmp 49) (.tmp 58) (.val (.bool false))), []⟩])
               (.cond (.tmp 59)
                (.skip)
                (.exit 4)))
              (.block 5
               (.ops [⟨0, some 60, none, .op .quiet (oMv (.tmp 10)), []⟩,
                 ⟨1, some 61, none, .op .quiet (oArith .sub (.tmp 60) (.val (.int .i64 1))), []⟩,
                 ⟨2, some 10, none, .op .quiet (oMv (.tmp 61)), []⟩])))))
           (.seq
            (.seq
             (.ops [⟨0, some 62, none, .op .quiet (oMv (.tmp 9)), []⟩,
               ⟨1, some 63, none, .op .quiet (oMv (.tmp 10)), []⟩,
               ⟨2, some 64, none, .op .quiet (oArith .gtr (.tmp 62) (.tmp 63)), []⟩])
             (.cond (.tmp 64)
              (.exit 0)
              (.skip)))
            (.seq
             (.drawn [⟨0, some 65, none, .op .quiet (oMv (.tmp 0)), []⟩,
               ⟨1, some 66, none, .op .quiet (oMv (.tmp 9)), []⟩,
               ⟨2, some 67, none, .op .quiet (oMv (.tmp 0)), []⟩,
               ⟨3, some 68, none, .op .quiet (oMv (.tmp 10)), []⟩,
               ⟨4, some 69, none, .op .quiet (oMv (.tmp 0)), []⟩,
               ⟨5, some 70, none, .op .quiet (oMv (.tmp 10)), []⟩,
               ⟨6, some 71, none, .op .quiet (oIdxS 1 (.tmp 69) (.tmp 70)), []⟩,
               ⟨7, some 72, none, .op .reads (oLoad (.tmp 71)), []⟩,
               ⟨8, some 73, none, .op .quiet (oMv (.tmp 0)), []⟩,
               ⟨9, some 74, none, .op .quiet (oMv (.tmp 9)), []⟩,
               ⟨10, some 75, none, .op .quiet (oIdxS 1 (.tmp 73) (.tmp 74)), []⟩,
               ⟨11, some 76, none, .op .reads (oLoad (.tmp 75)), []⟩,
               ⟨12, some 77, none, .op .quiet (oIdxS 1 (.tmp 65) (.tmp 66)), []⟩,
               ⟨13, none, none, .op .hard (oStore 1 (.tmp 77) (.tmp 72)), []⟩,
               ⟨14, some 78, none, .op .quiet (oIdxS 1 (.tmp 67) (.tmp 68)), []⟩,
               ⟨15, none, none, .op .hard (oStore 1 (.tmp 78) (.tmp 76)), []⟩])
             (.seq
              (.ops [⟨0, some 79, none, .op .quiet (oMv (.tmp 9)), []⟩,
                ⟨1, some 80, none, .op .quiet (oArith .add (.tmp 79) (.val (.int .i64 1))), []⟩,
                ⟨2, some 9, none, .op .quiet (oMv (.tmp 80)), []⟩])
              (.ops [⟨0, some 81, none, .op .quiet (oMv (.tmp 10)), []⟩,
                ⟨1, some 82, none, .op .quiet (oArith .sub (.tmp 81) (.val (.int .i64 1))), []⟩,
                ⟨2, some 10, none, .op .quiet (oMv (.tmp 82)), []⟩])))))))))
      (.seq
       (.ops [⟨0, some 83, none, .op .quiet (oMv (.tmp 9)), []⟩,
         ⟨1, some 8, none, .op .quiet (oMv (.tmp 83)), []⟩])
       (.ret))))))⟩
/-- slices.partitionOrdered[int] -/
noncomputable def a359 : AF := ⟨[.tmp 8, .tmp 9],
 (.seq
   (.ops [⟨0, some 8, none, .op .quiet (oMv (.val (.int .i64 0))), []⟩,
     ⟨1, some 9, none, .op .quiet (oMv (.val (.bool false))), []⟩])
   (.seq
    (.drawn [⟨0, some 12, none, .op .quiet (oMv (.tmp 0)), []⟩,
      ⟨1, some 13, none, .op .quiet (oMv (.tmp 1)), []⟩,
      ⟨2, some 14, none, .op .quiet (oMv (.tmp 0)), []⟩,
      ⟨3, some 15, none, .op .quiet (oMv (.tmp 3)), []⟩,
      ⟨4, some 16, none, .op .quiet (oMv (.tmp 0)), []⟩,
      ⟨5, some 17, none, .op .quiet (oMv (.tmp 3)), []⟩,
      ⟨6, some 18, none, .op .quiet (oIdxS 1 (.tmp 16) (.tmp 17)), []⟩,
      ⟨7, some 19, none, .op .reads (oLoad (.tmp 18)), []⟩,
      ⟨8, some 20, none, .op .quiet (oMv (.tmp 0)), []⟩,
      ⟨9, some 21, none, .op .quiet (oMv (.tmp 1)), []⟩,
      ⟨10, some 22, none, .op .quiet (oIdxS 1 (.tmp 20) (.tmp 21)), []⟩,
      ⟨11, some 23, none, .op .reads (oLoad (.tmp 22)), []⟩,
      ⟨12, some 24, none, .op .quiet (oIdxS 1 (.tmp 12) (.tmp 13)), []⟩,
      ⟨13, none, none, .op .hard (oStore 1 (.tmp 24) (.tmp 19)), []⟩,
      ⟨14, some 25, none, .op .quiet (oIdxS 1 (.tmp 14) (.tmp 15)), []⟩,
      ⟨15, none, none, .op .hard (oStore 1 (.tmp 25) (.tmp 23)), []⟩])
    (.seq
     (.ops [⟨0, some 26, none, .op .quiet (oMv (.tmp 1)), []⟩,
       ⟨1, some 27, none, .op .quiet (oArith .add (.tmp 26) (.val (.int .i64 1))), []⟩,
       ⟨2, some 28, none, .op .quiet (oMv (.tmp 2)), []⟩,
       ⟨3, some 29, none, .op .quiet (oArith .sub (.tmp 28) (.val (.int .i64 1))), []⟩,
       ⟨4, some 10, none, .op .quiet (oMv (.tmp 27)), []⟩,
       ⟨5, some 11, none, .op .quiet (oMv (.tmp 29)), []⟩])
     (.seq
      (.block 0
       (.loop
        (.seq
         (.seq
          (.drawn [⟨0, some 30, none, .op .quiet (oMv (.tmp 10)), []⟩,
            ⟨1, some 31, none, .op .quiet (oMv (.tmp 11)), []⟩,
            ⟨2, some 32, none, .op .quiet (oArith .leq (.tmp 30) (.tmp 31)), []⟩,
            ⟨3, some 33, none, .op .quiet (oMv (.tmp 32)), []⟩,
            ⟨4, some 34, some (33, true), .op .quiet (oMv (.tmp 0)), []⟩,
            ⟨5, some 35, some (33, true), .op .quiet (oMv (.tmp 10)), []⟩,
            ⟨6, some 36, some (33, true), .op .quiet (oIdxS 1 (.tmp 34) (.tmp 35)), []⟩,
            ⟨7, some 37, some (33, true), .op .reads (oLoad (.tmp 36)), []⟩,
            ⟨8, some 38, some (33, true), .op .quiet (oMv (.tmp 0)), []⟩,
            ⟨9, some 39, some (33, true), .op .quiet (oMv (.tmp 1)), []⟩,
            ⟨10, some 40, some (33, true), .op .quiet (oIdxS 1 (.tmp 38) (.tmp 39)), []⟩,
            ⟨11, some 41, some (33, true), .op .reads (oLoad (.tmp 40)), []⟩,
            ⟨12, some 42, some (33, true), .callF 357 [(.tmp 37), (.tmp 41)], []⟩,
            ⟨13, some 43, none, .op .quiet (oPick (.tmp 33) (.tmp 42) (.val (.bool false))), []⟩])
          (.cond (.tmp 43)
           (.skip)
           (.exit 0)))
         (.block 1
          (.ops [⟨0, some 44, none, .op .quiet (oMv (.tmp 10)), []⟩,
            ⟨1, some 45, none, .op .quiet (oArith .add (.tmp 44) (.val (.int .i64 1))), []⟩,
            ⟨2, some 10, none, .op .quiet (oMv (.tmp 45)), []⟩])))))
      (.seq
       (.block 2
        (.loop
         (.seq
          (.seq
           (.drawn [⟨0, some 46, none, .op .quiet (oMv (.tmp 10)), []⟩,
             ⟨1, some 47, none, .op .quiet (oMv (.tmp 11)), []⟩,
             ⟨2, some 48, none, .op .quiet (oArith .leq (.tmp 46) (.tmp 47)), []⟩,
             ⟨3, some 49, none, .op .quiet (oMv (.tmp 48)), []⟩,
             ⟨4, some 50, some (49, true), .op .quiet (oMv (.tmp 0)), []⟩,
             ⟨5, some 51, some (49, true), .op .quiet (oMv (.tmp 11)), []⟩,
             ⟨6, some 52, some (49, true), .op .quiet (oIdxS 1 (.tmp 50) (.tmp 51)), []⟩,
             ⟨7, some 53, some (49, true), .op .reads (oLoad (.tmp 52)), []⟩,
             ⟨8, some 54, some (49, true), .op .quiet (oMv (.tmp 0)), []⟩,
             ⟨9, some 55, some (49, true), .op .quiet (oMv (.tmp 1)), []⟩,
             ⟨10, some 56, some (49, true), .op .quiet (oIdxS 1 (.tmp 54) (.tmp 55)), []⟩,
             ⟨11, some 57, some (49, true), .op .reads (oLoad (.tmp 56)), []⟩,
             ⟨12, some 58, some (49, true), .callF 357 [(.tmp 53), (.tmp 57)], []⟩,
             ⟨13, some 59, some (49, true), .op .quiet (oNot (.tmp 58)), []⟩,
             ⟨14, some 60, none, .op .quiet (oPick (.tmp 49) (.tmp 59) (.val (.bool false))), []⟩])
           (.cond (.tmp 60)
            (.skip)
            (.exit 2)))
          (.block 3
           (.ops [⟨0, some 61, none, .op .quiet (oMv (.tmp 11)), []⟩,
             ⟨1, some 62, none, .op .quiet (oArith .sub (.tmp 61) (.val (.int .i64 1))), []⟩,
             ⟨2, some 11, none, .op .quiet (oMv (.tmp 62)), []⟩])))))
       (.seq
        (.seq
         (.ops [⟨0, some 63, none, .op .quiet (oMv (.tmp 10)), []⟩,
           ⟨1, some 64, none, .op .quiet (oMv (.tmp 11)), []⟩,
           ⟨2, some 65, none, .op .quiet (oArith .gtr (.tmp 63) (.tmp 64)), []⟩])
         (.cond (.tmp 65)
          (.seq
           (.drawn [⟨0, some 66, none, .op .quiet (oMv (.tmp 0)), []⟩,
             ⟨1, some 67, none, .op .quiet (oMv (.tmp 11)), []⟩,
             ⟨2, some 68, none, .op .quiet (oMv (.tmp 0)), []⟩,
             ⟨3, some 69, none, .op .quiet (oMv (.tmp 1)), []⟩,
             ⟨4, some 70, none, .op .quiet (oMv (.tmp 0)), []⟩,
             ⟨5, some 71, none, .op .quiet (oMv (.tmp 1)), []⟩,
             ⟨6, some 72, none, .op .quiet (oIdxS 1 (.tmp 70) (.tmp 71)), []⟩,
             ⟨7, some 73, none, .op .reads (oLoad (.tmp 72)), []⟩,
             ⟨8, some 74, none, .op .quiet (oMv (.tmp 0)), []⟩,
             ⟨9, some 75, none, .op .quiet (oMv (.tmp 11)), []⟩,
             ⟨10, some 76, none, .op .quiet (oIdxS 1 (.tmp 74) (.tmp 75)), []⟩,
             ⟨11, some 77, none, .op .reads (oLoad (.tmp 76)), []⟩,
             ⟨12, some 78, none, .op .quiet (oIdxS 1 (.tmp 66) (.tmp 67)), []⟩,
             ⟨13, none, none, .op .hard (oStore 1 (.tmp 78) (.tmp 73)), []⟩,
             ⟨14, some 79, none, .op .quiet (oIdxS 1 (.tmp 68) (.tmp 69)), []⟩,
             ⟨15, none, none, .op .hard (oStore 1 (.tmp 79) (.tmp 77)), []⟩])
           (.seq
            (.ops [⟨0, some 80, none, .op .quiet (oMv (.tmp 11)), []⟩,
              ⟨1, some 8, none, .op .quiet (oMv (.tmp 80)), []⟩,
              ⟨2, some 9, none, .op .quiet (oMv (.val (.bool true))), []⟩])
            (.ret)))
          (.skip)))
        (.seq
         (.drawn [⟨0, some 81, none, .op .quiet (oMv (.tmp 0)), []⟩,
           ⟨1, some 82, none, .op .quiet (oMv (.tmp 10)), []⟩,
           ⟨2, some 83, none, .op .quiet (oMv (.tmp 0)), []⟩,
           ⟨3, some 84, none, .op .quiet (oMv (.tmp 11)), []⟩,
           ⟨4, some 85, none, .op .quiet (oMv (.tmp 0)), []⟩,
           ⟨5, some 86, none, .op .quiet (oMv (.tmp 11)), []⟩,
           ⟨6, some 87, none, .op .quiet (oIdxS 1 (.tmp 85) (.tmp 86)), []⟩,
           ⟨7, some 88, none, .op .reads (oLoad (.tmp 87)), []⟩,
           ⟨8, some 89, none, .op .quiet (oMv (.tmp 0)), []⟩,
           ⟨9, some 90, none, .op .quiet (oMv (.tmp 10)), []⟩,
           ⟨10, some 91, none, .op .quiet (oIdxS 1 (.tmp 89) (.tmp 90)), []⟩,
           ⟨11, some 92, none, .op .reads (oLoad (.tmp 91)), []⟩,
           ⟨12, some 93, none, .op .quiet (oIdxS 1 (.tmp 81) (.tmp 82)), []⟩,
           ⟨13, none, none, .op .hard (oStore 1 (.tmp 93) (.tmp 88)), []⟩,
           ⟨14, some 94, none, .op .quiet (oIdxS 1 (.tmp 83) (.tmp 84)), []⟩,
           ⟨15, none, none, .op .hard (oStore 1 (.tmp 94) (.tmp 92)), []⟩])
         (.seq
          (.ops [⟨0, some 95, none, .op .quiet (oMv (.tmp 10)), []⟩,
            ⟨1, some 96, none, .op .quiet (oArith .add (.tmp 95) (.val (.int .i64 1))), []⟩,
            ⟨2, some 10, none, .op .quiet (oMv (.tmp 96)), []⟩])
          (.seq
           (.ops [⟨0, some 97, none, .op .quiet (oMv (.tmp 11)), []⟩,
             ⟨1, some 98, none, .op .quiet (oArith .sub (.tmp 97) (.val (.int .i64 1))), []⟩,
             ⟨2, some 11, none, .op .quiet (oMv (.tmp 98)), []⟩])
           (.seq
            (.block 4
             (.loop
              (.block 5
               (.seq
                (.block 6
                 (.loop
                  (.seq
                   (.seq
                    (.drawn [⟨0, some 99, none, .op .quiet (oMv (.tmp 10)), []⟩,
                      ⟨1, some 100, none, .op .quiet (oMv (.tmp 11)), []⟩,
                      ⟨2, some 101, none, .op .quiet (oArith .leq (.tmp 99) (.tmp 100)), []⟩,
                      ⟨3, some 102, none, .op .quiet (oMv (.tmp 101)), []⟩,
                      ⟨4, some 103, some (102, true), .op .quiet (oMv (.tmp 0)), []⟩,
                      ⟨5, some 104, some (102, true), .op .quiet (oMv (.tmp 10)), []⟩,
                      ⟨6, some 105, some (102, true), .op .quiet (oIdxS 1 (.tmp 103) (.tmp 104)), []⟩,
                      ⟨7, some 106, some (102, true), .op .reads (oLoad (.tmp 105)), []⟩,
                      ⟨8, some 107, some (102, true), .op .quiet (oMv (.tmp 0)), []⟩,
                      ⟨9, some 108, some (102, true), .op .quiet (oMv (.tmp 1)), []⟩,
                      ⟨10, some 109, some (102, true), .op .quiet (oIdxS 1 (.tmp 107) (.tmp 108)), []⟩,
                      ⟨11, some 110, some (102, true), .op .reads (oLoad (.tmp 109)), []⟩,
                      ⟨12, some 111, some (102, true), .callF 357 [(.tmp 106), (.tmp 110)], []⟩,
                      ⟨13, some 112, none, .op .quiet (oPick (.tmp 102) (.tmp 111) (.val (.bool false))), []⟩])
                    (.cond (.tmp 112)
                     (.skip)
                     (.exit 6)))
                   (.block 7
                    (.ops [⟨0, some 113, none, .op .quiet (oMv (.tmp 10)), []⟩,
                      ⟨1, some 114, none, .op .quiet (oArith .add (.tmp 113) (.val (.int .i64 1))), []⟩,
                      ⟨2, some 10, none, .op .quiet (oMv (.tmp 114)), []⟩])))))
                (.seq
                 (.block 8
                  (.loop
                   (.seq
                    (.seq
                     (.drawn [⟨0, some 115, none, .op .quiet (oMv (.tmp 10)), []⟩,
                       ⟨1, some 116, none, .op .quiet (oMv (.tmp 11)), []⟩,
                       ⟨2, some 117, none, .op .quiet (oArith .leq (.tmp 115) (.tmp 116)), []⟩,
                       ⟨3, some 118, none, .op .quiet (oMv (.tmp 117)), []⟩,
                       ⟨4, some 119, some (118, true), .op .quiet (oMv (.tmp 0)), []⟩,
                       ⟨5, some 120, some (118, true), .op .quiet (oMv (.tmp 11)), []⟩,
                       ⟨6, some 121, some (118, true), .op .quiet (oIdxS 1 (.tmp 119) (.tmp 120)), []⟩,
                       ⟨7, some 122, some (118, true), .op .reads (oLoad (.tmp 121)), []⟩,
                       ⟨8, some 123, some (118, true), .op .quiet (oMv (.tmp 0)), []⟩,
                       ⟨9, some 124, some (118, true), .op .quiet (oMv (.tmp 1)), []⟩,
                       ⟨10, some 125, some (118, true), .op .quiet (oIdxS 1 (.tmp 123) (.tmp 124)), []⟩,
                       ⟨11, some 126, some (118, true), .op .reads (oLoad (.tmp 125)), []⟩,
                       ⟨12, some 127, some (118, true), .callF 357 [(.tmp 122), (.tmp 126)], []⟩,
                       ⟨13, some 128, some (118, true), .op .quiet (oNot (.tmp 127)), []⟩,
                       ⟨14, some 129, none, .op .quiet (oPick (.tmp 118) (.tmp 128) (.val (.bool false))), []⟩])
                     (.cond (.tmp 129)
                      (.skip)
                      (.exit 8)))
                    (.block 9
                     (.ops [⟨0, some 130, none, .op .quiet (oMv (.tmp 11)), []⟩,
                       ⟨1, some 131, none, .op .quiet (oArith .sub (.tmp 130) (.val (.int .i64 1))), []⟩,
                       ⟨2, some 11, none, .op .quiet (oMv (.tmp 131)), []⟩])))))
                 (.seq
                  (.seq
                   (.ops [⟨0, some 132, none, .op .quiet (oMv (.tmp 10)), []⟩,
                     ⟨1, some 133, none, .op .quiet (oMv (.tmp 11)), []⟩,
                     ⟨2, some 134, none, .op .quiet (oArith .gtr (.tmp 132) (.tmp 133)), []⟩])
                   (.cond (.tmp 134)
                    (.exit 4)
                    (.skip)))
                  (.seq
                   (.drawn [⟨0, some 135, none, .op .quiet (oMv (.tmp 0)), []⟩,
                     ⟨1, some 136, none, .op .quiet (oMv (.tmp 10)), []⟩,
                     ⟨2, some 137, none, .op .quiet (oMv (.tmp 0)), []⟩,
                     ⟨3, some 138, none, .op .quiet (oMv (.tmp 11)), []⟩,
                     ⟨4, some 139, none, .op .quiet (oMv (.tmp 0)), []⟩,
                     ⟨5, some 140, none, .op .quiet (oMv (.tmp 11)), []⟩,
                     ⟨6, some 141, none, .op .quiet (oIdxS 1 (.tmp 139) (.tmp 140)), []⟩,
                     ⟨7, some 142, none, .op .reads (oLoad (.tmp 141)), []⟩,
                     ⟨8, some 143, none, .op .quiet (oMv (.tmp 0)), []⟩,
                     ⟨9, some 144, none, .op .quiet (oMv (.tmp 10)), []⟩,
                     ⟨10, some 145, none, .op .quiet (oIdxS 1 (.tmp 143) (.tmp 144)), []⟩,
                     ⟨11, some 146, none, .op .reads (oLoad (.tmp 145)), []⟩,
                     ⟨12, some 147, none, .op .quiet (oIdxS 1 (.tmp 135) (.tmp 136)), []⟩,
                     ⟨13, none, none, .op .hard (oStore 1 (.tmp 147) (.tmp 142)), []⟩,
                     ⟨14, some 148, none, .op .quiet (oIdxS 1 (.tmp 137) (.tmp 138)), []⟩,
                     ⟨15, none, none, .op .hard (oStore 1 (.tmp 148) (.tmp 146)), []⟩])
                   (.seq
                    (.ops [⟨0, some 149, none, .op .quiet (oMv (.tmp 10)), []⟩,
                      ⟨1, some 150, none, .op .quiet (oArith .add (.tmp 149) (.val (.int .i64 1))), []⟩,
                      ⟨2, some 10, none, .op .quiet (oMv (.tmp 150)), []⟩])
                    (.ops [⟨0, some 151, none, .op .quiet (oMv (.tmp 11)), []⟩,
                      ⟨1, some 152, none, .op .quiet (oArith .sub (.tmp 151) (.val (.int .i64 1))), []⟩,
                      ⟨2, some 11, none, .op .quiet (oMv (.tmp 152)), []⟩])))))))))
            (.seq
             (.drawn [⟨0, some 153, none, .op .quiet (oMv (.tmp 0)), []⟩,
               ⟨1, some 154, none, .op .quiet (oMv (.tmp 11)), []⟩,
               ⟨2, some 155, none, .op .quiet (oMv (.tmp 0)), []⟩,
               ⟨3, some 156, none, .op .quiet (oMv (.tmp 1)), []⟩,
               ⟨4, some 157, none, .op .quiet (oMv (.tmp 0)), []⟩,
               ⟨5, some 158, none, .op .quiet (oMv (.tmp 1)), []⟩,
               ⟨6, some 159, none, .op .quiet (oIdxS 1 (.tmp 157) (.tmp 158)), []⟩,
               ⟨7, some 160, none, .op .reads (oLoad (.tmp 159)), []⟩,
               ⟨8, some 161, none, .op .quiet (oMv (.tmp 0)), []⟩,
               ⟨9, some 162, none, .op .quiet (oMv (.tmp 11)), []⟩,
               ⟨10, some 163, none, .op .quiet (oIdxS 1 (.tmp 161) (.tmp 162)), []⟩,
               ⟨11, some 164, none, .op .reads (oLoad (.tmp 163)), []⟩,
               ⟨12, some 165, none, .op .quiet (oIdxS 1 (.tmp 153) (.tmp 154)), []⟩,
               ⟨13, none, none, .op .hard (oStore 1 (.tmp 165) (.tmp 160)), []⟩,
               ⟨14, some 166, none, .op .quiet (oIdxS 1 (.tmp 155) (.tmp 156)), []⟩,
               ⟨15, none, none, .op .hard (oStore 1 (.tmp 166) (.tmp 164)), []⟩])
             (.seq
              (.ops [⟨0, some 167, none, .op .quiet (oMv (.tmp 11)), []⟩,
                ⟨1, some 8, none, .op .quiet (oMv (.tmp 167)), []⟩,
                ⟨2, some 9, none, .op .quiet (oMv (.val (.bool false))), []⟩])
              (.ret)))))))))))))⟩
/-- slices.siftDownCmpFunc[tangram/api.Edge] -/
noncomputable def a360 : AF := ⟨[],
 (.seq
   (.ops [⟨0, some 12, none, .op .quiet (oMv (.tmp 1)), []⟩,
     ⟨1, some 10, none, .op .quiet (oMv (.tmp 12)), []⟩])
   (.block 0
    (.loop
     (.block 1
      (.seq
       (.ops [⟨0, some 13, none, .op .quiet (oMv (.tmp 10)), []⟩,
         ⟨1, some 14, none, .op .quiet (oArith .mul (.val (.int .i64 2)) (.tmp 13)), []⟩,
         ⟨2, some 15, none, .op .quiet (oArith .add (.tmp 14) (.val (.int .i64 1))), []⟩,
         ⟨3, some 11, none, .op .quiet (oMv (.tmp 15)), []⟩])
       (.seq
        (.seq
         (.ops [⟨0, some 16, none, .op .quiet (oMv (.tmp 11)), []⟩,
           ⟨1, some 17, none, .op .quiet (oMv (.tmp 2)), []⟩,
           ⟨2, some 18, none, .op .quiet (oArith .geq (.tmp 16) (.tmp 17)), []⟩])
         (.cond (.tmp 18)
          (.exit 0)
          (.skip)))
        (.seq
         (.seq
          (.drawn [⟨0, some 19, none, .op .quiet (oMv (.tmp 11)), []⟩,
            ⟨1, some 20, none, .op .quiet (oArith .add (.tmp 19) (.val (.int .i64 1))), []⟩,
            ⟨2, some 21, none, .op .quiet (oMv (.tmp 2)), []⟩,
            ⟨3, some 22, none, .op .quiet (oArith .lss (.tmp 20) (.tmp 21)), []⟩,
            ⟨4, some 23, none, .op .quiet (oMv (.tmp 22)), []⟩,
            ⟨5, some 24, some (23, true), .op .quiet (oMv (.tmp 4)), []⟩,
            ⟨6, some 25, some (23, true), .op .quiet (oMv (.tmp 0)), []⟩,
            ⟨7, some 26, some (23, true), .op .quiet (oMv (.tmp 3)), []⟩,
            ⟨8, some 27, some (23, true), .op .quiet (oMv (.tmp 11)), []⟩,
            ⟨9, some 28, some (23, true), .op .quiet (oArith .add (.tmp 26) (.tmp 27)), []⟩,
            ⟨10, some 29, some (23, true), .op .quiet (oIdxS 2 (.tmp 25) (.tmp 28)), []⟩,
            ⟨11, some 30, some (23, true), .op .reads (oLoadN 2 (.tmp 29)), []⟩,
            ⟨12, some 31, some (23, true), .op .quiet (oMv (.tmp 0)), []⟩,
            ⟨13, some 32, some (23, true), .op .quiet (oMv (.tmp 3)), []⟩,
            ⟨14, some 33, some (23, true), .op .quiet (oMv (.tmp 11)), []⟩,
            ⟨15, some 34, some (23, true), .op .quiet (oArith .add (.tmp 32) (.tmp 33)), []⟩,
            ⟨16, some 35, some (23, true), .op .quiet (oArith .add (.tmp 34) (.val (.int .i64 1))), []⟩,
            ⟨17, some 36, some (23, true), .op .quiet (oIdxS 2 (.tmp 31) (.tmp 35)), []⟩,
            ⟨18, some 37, some (23, true), .op .reads (oLoadN 2 (.tmp 36)), []⟩,
            ⟨19, some 38, some (23, true), .call (.tmp 24) [(.tmp 30), (.tmp 37)], []⟩,
            ⟨20, some 39, some (23, true), .op .quiet (oArith .lss (.tmp 38) (.val (.int .i64 0))), []⟩,
            ⟨21, some 40, none, .op .quiet (oPick (.tmp 23) (.tmp 39) (.val (.bool false))), []⟩])
          (.cond (.tmp 40)
           (.ops [⟨0, some 41, none, .op .quiet (oMv (.tmp 11)), []⟩,
             ⟨1, some 42, none, .op .quiet (oArith .add (.tmp 41) (.val (.int .i64 1))), []⟩,
             ⟨2, some 11, none, .op .quiet (oMv (.tmp 42)), []⟩])
           (.skip)))
         (.seq
          (.seq
           (.drawn [⟨0, some 43, none, .op .quiet (oMv (.tmp 4)), []⟩,
             ⟨1, some 44, none, .op .quiet (oMv (.tmp 0)), []⟩,
             ⟨2, some 45, none, .op .quiet (oMv (.tmp 3)), []⟩,
             ⟨3, some 46, none, .op .quiet (oMv (.tmp 10)), []⟩,
             ⟨4, some 47, none, .op .quiet (oArith .add (.tmp 45) (.tmp 46)), []⟩,
             ⟨5, some 48, none, .op .quiet (oIdxS 2 (.tmp 44) (.tmp 47)), []⟩,
             ⟨6, some 49, none, .op .reads (oLoadN 2 (.tmp 48)), []⟩,
             ⟨7, some 50, none, .op .quiet (oMv (.tmp 0)), []⟩,
             ⟨8, some 51, none, .op .quiet (oMv (.tmp 3)), []⟩,
             ⟨9, some 52, none, .op .quiet (oMv (.tmp 11)), []⟩,
             ⟨10, some 53, none, .op .quiet (oArith .add (.tmp 51) (.tmp 52)), []⟩,
             ⟨11, some 54, none, .op .quiet (oIdxS 2 (.tmp 50) (.tmp 53)), []⟩,
             ⟨12, some 55, none, .op .reads (oLoadN 2 (.tmp 54)), []⟩,
             ⟨13, some 56, none, .call (.tmp 43) [(.tmp 49), (.tmp 55)], []⟩,
             ⟨14, some 57, none, .op .quiet (oArith .lss (.tmp 56) (.val (.int .i64 0))), []⟩,
             ⟨15, some 58, none, .op .quiet (oNot (.tmp 57)), []⟩])
           (.cond (.tmp 58)
            (.ret)
            (.skip)))
          (.seq
           (.drawn [⟨0, some 59, none, .op .quiet (oMv (.tmp 0)), []⟩,
             ⟨1, some 60, none, .op .quiet (oMv (.tmp 3)), []⟩,
             ⟨2, some 61, none, .op .quiet (oMv (.tmp 10)), []⟩,
             ⟨3, some 62, none, .op .quiet (oArith .add (.tmp 60) (.tmp 61)), []⟩,
             ⟨4, some 63, none, .op .quiet (oMv (.tmp 0)), []⟩,
             ⟨5, some 64, none, .op .quiet (oMv (.tmp 3)), []⟩,
             ⟨6, some 65, none, .op .quiet (oMv (.tmp 11)), []⟩,
             ⟨7, some 66, none, .op .quiet (oArith .add (.tmp 64) (.tmp 65)), []⟩,
             ⟨8, some 67, none, .op .quiet (oMv (.tmp 0)), []⟩,
             ⟨9, some 68, none, .op .quiet (oMv (.tmp 3)), []⟩,
             ⟨10, some 69, none, .op .quiet (oMv (.tmp 11)), []⟩,
             ⟨11, some 70, none, .op .quiet (oArith .add (.tmp 68) (.tmp 69)), []⟩,
             ⟨12, some 71, none, .op .quiet (oIdxS 2 (.tmp 67) (.tmp 70)), []⟩,
             ⟨13, some 72, none, .op .reads (oLoadN 2 (.tmp 71)), []⟩,
             ⟨14, some 73, none, .op .quiet (oMv (.tmp 0)), []⟩,
             ⟨15, some 74, none, .op .quiet (oMv (.tmp 3)), []⟩,
             ⟨16, some 75, none, .op .quiet (oMv (.tmp 10)), []⟩,
             ⟨17, some 76, none, .op .quiet (oArith .add (.tmp 74) (.tmp 75)), []⟩,
             ⟨18, some 77, none, .op .quiet (oIdxS 2 (.tmp 73) (.tmp 76)), []⟩,
             ⟨19, some 78, none, .op .reads (oLoadN 2 (.tmp 77)), []⟩,
             ⟨20, some 79, none, .op .quiet (oIdxS 2 (.tmp 59) (.tmp 62)), []⟩,
             ⟨21, none, none, .op .hard (oStore 2 (.tmp 79) (.tmp 72)), []⟩,
             ⟨22, some 80, none, .op .quiet (oIdxS 2 (.tmp 63) (.tmp 66)), []⟩,
             ⟨23, none, none, .op .hard (oStore 2 (.tmp 80) (.tmp 78)), []⟩])
           (.ops [⟨0, some 81, none, .op .quiet (oMv (.tmp 11)), []⟩,
             ⟨1, some 10, none, .op .quiet (oMv (.tmp 81)), []⟩]))))))))))⟩
/-- slices.nextPowerOfTwo -/
noncomputable def a361 : AF := ⟨[.tmp 2],
 (.seq
   (.ops [⟨0, some 2, none, .op .quiet (oMv (.val (.int .u64 0))), []⟩])
   (.seq
    (.ops [⟨0, some 3, none, .op .quiet (oMv (.tmp 0)), []⟩,
      ⟨1, some 4, none, .op .quiet (oConv .u64 (.tmp 3)), []⟩,
      ⟨2, some 5, none, .callF 307 [(.tmp 4)], []⟩,
      ⟨3, some 6, none, .op .quiet (oShift .shl (.val (.int .u64 1)) (.tmp 5)), []⟩,
      ⟨4, some 2, none, .op .quiet (oMv (.tmp 6)), []⟩])
    (.ret)))⟩
/-- (*slices.xorshift).Next -/
noncomputable def a362 : AF := ⟨[.tmp 2],
 (.seq
   (.ops [⟨0, some 2, none, .op .quiet (oMv (.val (.int .u64 0))), []⟩])
   (.seq
    (.drawn [⟨0, some 3, none, .op .quiet (oMv (.tmp 0)), []⟩,
      ⟨1, some 4, none, .op .quiet (oNilCheck (.tmp 3)), []⟩,
      ⟨2, some 5, none, .op .reads (oLoad (.tmp 4)), []⟩,
      ⟨3, some 6, none, .op .quiet (oMv (.tmp 0)), []⟩,
      ⟨4, some 7, none, .op .quiet (oNilCheck (.tmp 6)), []⟩,
      ⟨5, some 8, none, .op .reads (oLoad (.tmp 7)), []⟩,
      ⟨6, some 9, none, .op .quiet (oShift .shl (.tmp 8) (.val (.int .u64 13))), []⟩,
      ⟨7, some 10, none, .op .quiet (oArith .xor (.tmp 5) (.tmp 9)), []⟩,
      ⟨8, some 11, none, .op .quiet (oNilCheck (.tmp 3)), []⟩,
      ⟨9, none, none, .op .hard (oStore 1 (.tmp 11) (.tmp 10)), []⟩])
    (.seq
     (.drawn [⟨0, some 12, none, .op .quiet (oMv (.tmp 0)), []⟩,
       ⟨1, some 13, none, .op .quiet (oNilCheck (.tmp 12)), []⟩,
       ⟨2, some 14, none, .op .reads (oLoad (.tmp 13)), []⟩,
       ⟨3, some 15, none, .op .quiet (oMv (.tmp 0)), []⟩,
       ⟨4, some 16, none, .op .quiet (oNilCheck (.tmp 15)), []⟩,
       ⟨5, some 17, none, .op .reads (oLoad (.tmp 16)), []⟩,
       ⟨6, some 18, none, .op .quiet (oShift .shr (.tmp 17) (.val (.int .u64 7))), []⟩,
       ⟨7, some 19, none, .op .quiet (oArith .xor (.tmp 14) (.tmp 18)), []⟩,
       ⟨8, some 20, none, .op .quiet (oNilCheck (.tmp 12)), []⟩,
       ⟨9, none, none, .op .hard (oStore 1 (.tmp 20) (.tmp 19)), []⟩])
     (.seq
      (.drawn [⟨0, some 21, none, .op .quiet (oMv (.tmp 0)), []⟩,
        ⟨1, some 22, none, .op .quiet (oNilCheck (.tmp 21)), []⟩,
        ⟨2, some 23, none, .op .reads (oLoad (.tmp 22)), []⟩,
        ⟨3, some 24, none, .op .quiet (oMv (.tmp 0)), []⟩,
        ⟨4, some 25, none, .op .quiet (oNilCheck (.tmp 24)), []⟩,
        ⟨5, some 26, none, .op .reads (oLoad (.tmp 25)), []⟩,
        ⟨6, some 27, none, .op .quiet (oShift .shl (.tmp 26) (.val (.int .u64 17))), []⟩,
        ⟨7, some 28, none, .op .quiet (oArith .xor (.tmp 23) (.tmp 27)), []⟩,
        ⟨8, some 29, none, .op .quiet (oNilCheck (.tmp 21)), []⟩,
        ⟨9, none, none, .op .hard (oStore 1 (.tmp 29) (.tmp 28)), []⟩])
      (.seq
       (.ops [⟨0, some 30, none, .op .quiet (oMv (.tmp 0)), []⟩,
         ⟨1, some 31, none, .op .quiet (oNilCheck (.tmp 30)), []⟩,
         ⟨2, some 32, none, .op .reads (oLoad (.tmp 31)), []⟩,
         ⟨3, some 2, none, .op .quiet (oMv (.tmp 32)), []⟩])
       (.ret))))))⟩
/-- slices.medianAdjacentCmpFunc[tangram/api.Edge] -/
noncomputable def a363 : AF := ⟨[.tmp 8],
 (.seq
   (.ops [⟨0, some 8, none, .op .quiet (oMv (.val (.int .i64 0))), []⟩])
   (.seq
    (.ops [⟨0, some 9, none, .op .quiet (oMv (.tmp 0)), []⟩,
      ⟨1, some 10, none, .op .quiet (oMv (.tmp 1)), []⟩,
      ⟨2, some 11, none, .op .quiet (oArith .sub (.tmp 10) (.val (.int .i64 1))), []⟩,
      ⟨3, some 12, none, .op .quiet (oMv (.tmp 1)), []⟩,
      ⟨4, some 13, none, .op .quiet (oMv (.tmp 1)), []⟩,
      ⟨5, some 14, none, .op .quiet (oArith .add (.tmp 13) (.val (.int .i64 1))), []⟩,
      ⟨6, some 15, none, .op .quiet (oMv (.tmp 2)), []⟩,
      ⟨7, some 16, none, .op .quiet (oMv (.tmp 3)), []⟩,
      ⟨8, some 17, none, .callF 364 [(.tmp 9), (.tmp 11), (.tmp 12), (.tmp 14), (.tmp 15), (.tmp 16)], []⟩,
      ⟨9, some 8, none, .op .quiet (oMv (.tmp 17)), []⟩])
    (.ret)))⟩
/-- slices.medianCmpFunc[tangram/api.Edge] -/
noncomputable def a364 : AF := ⟨[.tmp 12],
 (.seq
   (.ops [⟨0, some 12, none, .op .quiet (oMv (.val (.int .i64 0))), []⟩])
   (.seq
    (.ops [⟨0, some 14, none, .op .quiet (oMv (.tmp 0)), []⟩,
      ⟨1, some 15, none, .op .quiet (oMv (.tmp 1)), []⟩,
      ⟨2, some 16, none, .op .quiet (oMv (.tmp 2)), []⟩,
      ⟨3, some 17, none, .op .quiet (oMv (.tmp 4)), []⟩,
      ⟨4, some 18, none, .op .quiet (oMv (.tmp 5)), []⟩,
      ⟨5, some 19, none, .callF 377 [(.tmp 14), (.tmp 15), (.tmp 16), (.tmp 17), (.tmp 18)], []⟩,
      ⟨6, some 13, none, .op .quiet (oMv (.tmp 19)), []⟩,
      ⟨7, some 20, none, .op .quiet (oExtract 0 (.tmp 13)), []⟩,
      ⟨8, some 21, none, .op .quiet (oExtract 1 (.tmp 13)), []⟩,
      ⟨9, some 1, none, .op .quiet (oMv (.tmp 20)), []⟩,
      ⟨10, some 2, none, .op .quiet (oMv (.tmp 21)), []⟩])
    (.seq
     (.ops [⟨0, some 23, none, .op .quiet (oMv (.tmp 0)), []⟩,
       ⟨1, some 24, none, .op .quiet (oMv (.tmp 2)), []⟩,
       ⟨2, some 25, none, .op .quiet (oMv (.tmp 3)), []⟩,
       ⟨3, some 26, none, .op .quiet (oMv (.tmp 4)), []⟩,
       ⟨4, some 27, none, .op .quiet (oMv (.tmp 5)), []⟩,
       ⟨5, some 28, none, .callF 377 [(.tmp 23), (.tmp 24), (.tmp 25), (.tmp 26), (.tmp 27)], []⟩,
       ⟨6, some 22, none, .op .quiet (oMv (.tmp 28)), []⟩,
       ⟨7, some 29, none, .op .quiet (oExtract 0 (.tmp 22)), []⟩,
       ⟨8, some 30, none, .op .quiet (oExtract 1 (.tmp 22)), []⟩,
       ⟨9, some 2, none, .op .quiet (oMv (.tmp 29)), []⟩,
       ⟨10, some 3, none, .op .quiet (oMv (.tmp 30)), []⟩])
     (.seq
      (.ops [⟨0, some 32, none, .op .quiet (oMv (.tmp 0)), []⟩,
        ⟨1, some 33, none, .op .quiet (oMv (.tmp 1)), []⟩,
        ⟨2, some 34, none, .op .quiet (oMv (.tmp 2)), []⟩,
        ⟨3, some 35, none, .op .quiet (oMv (.tmp 4)), []⟩,
        ⟨4, some 36, none, .op .quiet (oMv (.tmp 5)), []⟩,
        ⟨5, some 37, none, .callF 377 [(.tmp 32), (.tmp 33), (.tmp 34), (.tmp 35), (.tmp 36)], []⟩,
        ⟨6, some 31, none, .op .quiet (oMv (.tmp 37)), []⟩,
        ⟨7, some 38, none, .op .quiet (oExtract 0 (.tmp 31)), []⟩,
        ⟨8, some 39, none, .op .quiet (oExtract 1 (.tmp 31)), []⟩,
        ⟨9, some 1, none, .op .quiet (oMv (.tmp 38)), []⟩,
        ⟨10, some 2, none, .op .quiet (oMv (.tmp 39)), []⟩])
      (.seq
       (.ops [⟨0, some 40, none, .op .quiet (oMv (.tmp 2)), []⟩,
         ⟨1, some 12, none, .op .quiet (oMv (.tmp 40)), []⟩])
       (.ret))))))⟩
/-- slices.siftDownOrdered[int] -/
noncomputable def a374 : AF := ⟨[],
 (.seq
   (.ops [⟨0, some 10, none, .op .quiet (oMv (.tmp 1)), []⟩,
     ⟨1, some 8, none, .op .quiet (oMv (.tmp 10)), []⟩])
   (.block 0
    (.loop
     (.block 1
      (.seq
       (.ops [⟨0, some 11, none, .op .quiet (oMv (.tmp 8)), []⟩,
         ⟨1, some 12, none, .op .quiet (oArith .mul (.val (.int .i64 2)) (.tmp 11)), []⟩,
         ⟨2, some 13, none, .op .quiet (oArith .add (.tmp 12) (.val (.int .i64 1))), []⟩,
         ⟨3, some 9, none, .op .quiet (oMv (.tmp 13)), []⟩])
       (.seq
        (.seq
         (.ops [⟨0, some 14, none, .op .quiet (oMv (.tmp 9)), []⟩,
           ⟨1, some 15, none, .op .quiet (oMv (.tmp 2)), []⟩,
           ⟨2, some 16, none, .op .quiet (oArith .geq (.tmp 14) (.tmp 15)), []⟩])
         (.cond (.tmp 16)
          (.exit 0)
          (.skip)))
        (.seq
         (.seq
          (.drawn [⟨0, some 17, none, .op .quiet (oMv (.tmp 9)), []⟩,
            ⟨1, some 18, none, .op .quiet (oArith .add (.tmp 17) (.val (.int .i64 1))), []⟩,
            ⟨2, some 19, none, .op .quiet (oMv (.tmp 2)), []⟩,
            ⟨3, some 20, none, .op .quiet (oArith .lss (.tmp 18) (.tmp 19)), []⟩,
            ⟨4, some 21, none, .op .quiet (oMv (.tmp 20)), []⟩,
            ⟨5, some 22, some (21, true), .op .quiet (oMv (.tmp 0)), []⟩,
            ⟨6, some 23, some (21, true), .op .quiet (oMv (.tmp 3)), []⟩,
            ⟨7, some 24, some (21, true), .op .quiet (oMv (.tmp 9)), []⟩,
            ⟨8, some 25, some (21, true), .op .quiet (oArith .add (.tmp 23) (.tmp 24)), []⟩,
            ⟨9, some 26, some (21, true), .op .quiet (oIdxS 1 (.tmp 22) (.tmp 25)), []⟩,
            ⟨10, some 27, some (21, true), .op .reads (oLoad (.tmp 26)), []⟩,
            ⟨11, some 28, some (21, true), .op .quiet (oMv (.tmp 0)), []⟩,
            ⟨12, some 29, some (21, true), .op .quiet (oMv (.tmp 3)), []⟩,
            ⟨13, some 30, some (21, true), .op .quiet (oMv (.tmp 9)), []⟩,
            ⟨14, some 31, some (21, true), .op .quiet (oArith .add (.tmp 29) (.tmp 30)), []⟩,
            ⟨15, some 32, some (21, true), .op .quiet (oArith .add (.tmp 31) (.val (.int .i64 1))), []⟩,
            ⟨16, some 33, some (21, true), .op .quiet (oIdxS 1 (.tmp 28) (.tmp 32)), []⟩,
            ⟨17, some 34, some (21, true), .op .reads (oLoad (.tmp 33)), []⟩,
            ⟨18, some 35, some (21, true), .callF 357 [(.tmp 27), (.tmp 34)], []⟩,
            ⟨19, some 36, none, .op .quiet (oPick (.tmp 21) (.tmp 35) (.val (.bool false))), []⟩])
          (.cond (.tmp 36)
           (.ops [⟨0, some 37, none, .op .quiet (oMv (.tmp 9)), []⟩,
             ⟨1, some 38, none, .op .quiet (oArith .add (.tmp 37) (.val (.int .i64 1))), []⟩,
             ⟨2, some 9, none, .op .quiet (oMv (.tmp 38)), []⟩])
           (.skip)))
         (.seq
          (.seq
           (.drawn [⟨0, some 39, none, .op .quiet (oMv (.tmp 0)), []⟩,
             ⟨1, some 40, none, .op .quiet (oMv (.tmp 3)), []⟩,
             ⟨2, some 41, none, .op .quiet (oMv (.tmp 8)), []⟩,
             ⟨3, some 42, none, .op .quiet (oArith .add (.tmp 40) (.tmp 41)), []⟩,
             ⟨4, some 43, none, .op .quiet (oIdxS 1 (.tmp 39) (.tmp 42)), []⟩,
             ⟨5, some 44, none, .op .reads (oLoad (.tmp 43)), []⟩,
             ⟨6, some 45, none, .op .quiet (oMv (.tmp 0)), []⟩,
             ⟨7, some 46, none, .op .quiet (oMv (.tmp 3)), []⟩,
             ⟨8, some 47, none, .op .quiet (oMv (.tmp 9)), []⟩,
             ⟨9, some 48, none, .op .quiet (oArith .add (.tmp 46) (.tmp 47)), []⟩,
             ⟨10, some 49, none, .op .quiet (oIdxS 1 (.tmp 45) (.tmp 48)), []⟩,
             ⟨11, some 50, none, .op .reads (oLoad (.tmp 49)), []⟩,
             ⟨12, some 51, none, .callF 357 [(.tmp 44), (.tmp 50)], []⟩,
             ⟨13, some 52, none, .op .quiet (oNot (.tmp 51)), []⟩])
           (.cond (.tmp 52)
            (.ret)
            (.skip)))
          (.seq
           (.drawn [⟨0, some 53, none, .op .quiet (oMv (.tmp 0)), []⟩,
             ⟨1, some 54, none, .op .quiet (oMv (.tmp 3)), []⟩,
             ⟨2, some 55, none, .op .quiet (oMv (.tmp 8)), []⟩,
             ⟨3, some 56, none, .op .quiet (oArith .add (.tmp 54) (.tmp 55)), []⟩,
             ⟨4, some 57, none, .op .quiet (oMv (.tmp 0)), []⟩,
             ⟨5, some 58, none, .op .quiet (oMv (.tmp 3)), []⟩,
             ⟨6, some 59, none, .op .quiet (oMv (.tmp 9)), []⟩,
             ⟨7, some 60, none, .op .quiet (oArith .add (.tmp 58) (.tmp 59)), []⟩,
             ⟨8, some 61, none, .op .quiet (oMv (.tmp 0)), []⟩,
             ⟨9, some 62, none, .op .quiet (oMv (.tmp 3)), []⟩,
             ⟨10, some 63, none, .op .quiet (oMv (.tmp 9)), []⟩,
             ⟨11, some 64, none, .op .quiet (oArith .add (.tmp 62) (.tmp 63)), []⟩,
             ⟨12, some 65, none, .op .quiet (oIdxS 1 (.tmp 61) (.tmp 64)), []⟩,
             ⟨13, some 66, none, .op .reads (oLoad (.tmp 65)), []⟩,
             ⟨14, some 67, none, .op .quiet (oMv (.tmp 0)), []⟩,
             ⟨15, some 68, none, .op .quiet (oMv (.tmp 3)), []⟩,
             ⟨16, some 69, none, .op .quiet (oMv (.tmp 8)), []⟩,
             ⟨17, some 70, none, .op .quiet (oArith .add (.tmp 68) (.tmp 69)), []⟩,
             ⟨18, some 71, none, .op .quiet (oIdxS 1 (.tmp 67) (.tmp 70)), []⟩,
             ⟨19, some 72, none, .op .reads (oLoad (.tmp 71)), []⟩,
             ⟨20, some 73, none, .op .quiet (oIdxS 1 (.tmp 53) (.tmp 56)), []⟩,
             ⟨21, none, none, .op .hard (oStore 1 (.tmp 73) (.tmp 66)), []⟩,
             ⟨22, some 74, none, .op .quiet (oIdxS 1 (.tmp 57) (.tmp 60)), []⟩,
             ⟨23, none, none, .op .hard (oStore 1 (.tmp 74) (.tmp 72)), []⟩])
           (.ops [⟨0, some 75, none, .op .quiet (oMv (.tmp 9)), []⟩,
             ⟨1, some 8, none, .op .quiet (oMv (.tmp 75)), []⟩]))))))))))⟩
/-- slices.medianAdjacentOrdered[int] -/
noncomputable def a375 : AF := ⟨[.tmp 6],
 (.seq
   (.ops [⟨0, some 6, none, .op .quiet (oMv (.val (.int .i64 0))), []⟩])
   (.seq
    (.ops [⟨0, some 7, none, .op .quiet (oMv (.tmp 0)), []⟩,
      ⟨1, some 8, none, .op .quiet (oMv (.tmp 1)), []⟩,
      ⟨2, some 9, none, .op .quiet (oArith .sub (.tmp 8) (.val (.int .i64 1))), []⟩,
      ⟨3, some 10, none, .op .quiet (oMv (.tmp 1)), []⟩,
      ⟨4, some 11, none, .op .quiet (oMv (.tmp 1)), []⟩,
      ⟨5, some 12, none, .op .quiet (oArith .add (.tmp 11) (.val (.int .i64 1))), []⟩,
      ⟨6, some 13, none, .op .quiet (oMv (.tmp 2)), []⟩,
      ⟨7, some 14, none, .callF 376 [(.tmp 7), (.tmp 9), (.tmp 10), (.tmp 12), (.tmp 13)], []⟩,
      ⟨8, some 6, none, .op .quiet (oMv (.tmp 14)), []⟩])
    (.ret)))⟩
/-- slices.medianOrdered[int] -/
noncomputable def a376 : AF := ⟨[.tmp 10],
 (.seq
   (.ops [⟨0, some 10, none, .op .quiet (oMv (.val (.int .i64 0))), []⟩])
   (.seq
    (.ops [⟨0, some 12, none, .op .quiet (oMv (.tmp 0)), []⟩,
      ⟨1, some 13, none, .op .quiet (oMv (.tmp 1)), []⟩,
      ⟨2, some 14, none, .op .quiet (oMv (.tmp 2)), []⟩,
      ⟨3, some 15, none, .op .quiet (oMv (.tmp 4)), []⟩,
      ⟨4, some 16, none, .callF 381 [(.tmp 12), (.tmp 13), (.tmp 14), (.tmp 15)], []⟩,
      ⟨5, some 11, none, .op .quiet (oMv (.tmp 16)), []⟩,
      ⟨6, some 17, none, .op .quiet (oExtract 0 (.tmp 11)), []⟩,
      ⟨7, some 18, none, .op .quiet (oExtract 1 (.tmp 11)), []⟩,
      ⟨8, some 1, none, .op .quiet (oMv (.tmp 17)), []⟩,
      ⟨9, some 2, none, .op .quiet (oMv (.tmp 18)), []⟩])
    (.seq
     (.ops [⟨0, some 20, none, .op .quiet (oMv (.tmp 0)), []⟩,
       ⟨1, some 21, none, .op .quiet (oMv (.tmp 2)), []⟩,
       ⟨2, some 22, none, .op .quiet (oMv (.tmp 3)), []⟩,
       ⟨3, some 23, none, .op .quiet (oMv (.tmp 4)), []⟩,
       ⟨4, some 24, none, .callF 381 [(.tmp 20), (.tmp 21), (.tmp 22), (.tmp 23)], []⟩,
       ⟨5, some 19, none, .op .quiet (oMv (.tmp 24)), []⟩,
       ⟨6, some 25, none, .op .quiet (oExtract 0 (.tmp 19)), []⟩,
       ⟨7, some 26, none, .op .quiet (oExtract 1 (.tmp 19)), []⟩,
       ⟨8, some 2, none, .op .quiet (oMv (.tmp 25)), []⟩,
       ⟨9, some 3, none, .op .quiet (oMv (.tmp 26)), []⟩])
     (.seq
      (.ops [⟨0, some 28, none, .op .quiet (oMv (.tmp 0)), []⟩,
        ⟨1, some 29, none, .op .quiet (oMv (.tmp 1)), []⟩,
        ⟨2, some 30, none, .op .quiet (oMv (.tmp 2)), []⟩,
        ⟨3, some 31, none, .op .quiet (oMv (.tmp 4)), []⟩,
        ⟨4, some 32, none, .callF 381 [(.tmp 28), (.tmp 29), (.tmp 30), (.tmp 31)], []⟩,
        ⟨5, some 27, none, .op .quiet (oMv (.tmp 32)), []⟩,
        ⟨6, some 33, none, .op .quiet (oExtract 0 (.tmp 27)), []⟩,
        ⟨7, some 34, none, .op .quiet (oExtract 1 (.tmp 27)), []⟩,
        ⟨8, some 1, none, .op .quiet (oMv (.tmp 33)), []⟩,
        ⟨9, some 2, none, .op .quiet (oMv (.tmp 34)), []⟩])
      (.seq
       (.ops [⟨0, some 35, none, .op .quiet (oMv (.tmp 2)), []⟩,
         ⟨1, some 10, none, .op .quiet (oMv (.tmp 35)), []⟩])
       (.ret))))))⟩
/-- slices.order2CmpFunc[tangram/api.Edge] -/
noncomputable def a377 : AF := ⟨[.tmp 10, .tmp 11],
 (.seq
   (.ops [⟨0, some 10, none, .op .quiet (oMv (.val (.int .i64 0))), []⟩,
     ⟨1, some 11, none, .op .quiet (oMv (.val (.int .i64 0))), []⟩])
   (.seq
    (.seq
     (.drawn [⟨0, some 12, none, .op .quiet (oMv (.tmp 4)), []⟩,
       ⟨1, some 13, none, .op .quiet (oMv (.tmp 0)), []⟩,
       ⟨2, some 14, none, .op .quiet (oMv (.tmp 2)), []⟩,
       ⟨3, some 15, none, .op .quiet (oIdxS 2 (.tmp 13) (.tmp 14)), []⟩,
       ⟨4, some 16, none, .op .reads (oLoadN 2 (.tmp 15)), []⟩,
       ⟨5, some 17, none, .op .quiet (oMv (.tmp 0)), []⟩,
       ⟨6, some 18, none, .op .quiet (oMv (.tmp 1)), []⟩,
       ⟨7, some 19, none, .op .quiet (oIdxS 2 (.tmp 17) (.tmp 18)), []⟩,
       ⟨8, some 20, none, .op .reads (oLoadN 2 (.tmp 19)), []⟩,
       ⟨9, some 21, none, .call (.tmp 12) [(.tmp 16), (.tmp 20)], []⟩,
       ⟨10, some 22, none, .op .quiet (oArith .lss (.tmp 21) (.val (.int .i64 0))), []⟩])
     (.cond (.tmp 22)
      (.seq
       (.ops [⟨0, some 23, none, .op .quiet (oMv (.tmp 3)), []⟩,
         ⟨1, some 24, none, .op .quiet (oNilCheck (.tmp 23)), []⟩,
         ⟨2, some 25, none, .op .reads (oLoad (.tmp 24)), []⟩,
         ⟨3, some 26, none, .op .quiet (oArith .add (.tmp 25) (.val (.int .i64 1))), []⟩,
         ⟨4, some 27, none, .op .quiet (oNilCheck (.tmp 23)), []⟩,
         ⟨5, none, none, .op .hard (oStore 1 (.tmp 27) (.tmp 26)), []⟩])
       (.seq
        (.ops [⟨0, some 28, none, .op .quiet (oMv (.tmp 2)), []⟩,
          ⟨1, some 29, none, .op .quiet (oMv (.tmp 1)), []⟩,
          ⟨2, some 10, none, .op .quiet (oMv (.tmp 28)), []⟩,
          ⟨3, some 11, none, .op .quiet (oMv (.tmp 29)), []⟩])
        (.ret)))
      (.skip)))
    (.seq
     (.ops [⟨0, some 30, none, .op .quiet (oMv (.tmp 1)), []⟩,
       ⟨1, some 31, none, .op .quiet (oMv (.tmp 2)), []⟩,
       ⟨2, some 10, none, .op .quiet (oMv (.tmp 30)), []⟩,
       ⟨3, some 11, none, .op .quiet (oMv (.tmp 31)), []⟩])
     (.ret))))⟩
/-- slices.order2Ordered[int] -/
noncomputable def a381 : AF := ⟨[.tmp 8, .tmp 9],
 (.seq
   (.ops [⟨0, some 8, none, .op .quiet (oMv (.val (.int .i64 0))), []⟩,
     ⟨1, some 9, none, .op .quiet (oMv (.val (.int .i64 0))), []⟩])
   (.seq
    (.seq
     (.drawn [⟨0, some 10, none, .op .quiet (oMv (.tmp 0)), []⟩,
       ⟨1, some 11, none, .op .quiet (oMv (.tmp 2)), []⟩,
       ⟨2, some 12, none, .op .quiet (oIdxS 1 (.tmp 10) (.tmp 11)), []⟩,
       ⟨3, some 13, none, .op .reads (oLoad (.tmp 12)), []⟩,
       ⟨4, some 14, none, .op .quiet (oMv (.tmp 0)), []⟩,
       ⟨5, some 15, none, .op .quiet (oMv (.tmp 1)), []⟩,
       ⟨6, some 16, none, .op .quiet (oIdxS 1 (.tmp 14) (.tmp 15)), []⟩,
       ⟨7, some 17, none, .op .reads (oLoad (.tmp 16)), []⟩,
       ⟨8, some 18, none, .callF 357 [(.tmp 13), (.tmp 17)], []⟩])
     (.cond (.tmp 18)
      (.seq
       (.ops [⟨0, some 19, none, .op .quiet (oMv (.tmp 3)), []⟩,
         ⟨1, some 20, none, .op .quiet (oNilCheck (.tmp 19)), []⟩,
         ⟨2, some 21, none, .op .reads (oLoad (.tmp 20)), []⟩,
         ⟨3, some 22, none, .op .quiet (oArith .add (.tmp 21) (.val (.int .i64 1))), []⟩,
         ⟨4, some 23, none, .op .quiet (oNilCheck (.tmp 19)), []⟩,
         ⟨5, none, none, .op .hard (oStore 1 (.tmp 23) (.tmp 22)), []⟩])
       (.seq
        (.ops [⟨0, some 24, none, .op .quiet (oMv (.tmp 2)), []⟩,
          ⟨1, some 25, none, .op .quiet (oMv (.tmp 1)), []⟩,
          ⟨2, some 8, none, .op .quiet (oMv (.tmp 24)), []⟩,
          ⟨3, some 9, none, .op .quiet (oMv (.tmp 25)), []⟩])
        (.ret)))
      (.skip)))
    (.seq
     (.ops [⟨0, some 26, none, .op .quiet (oMv (.tmp 1)), []⟩,
       ⟨1, some 27, none, .op .quiet (oMv (.tmp 2)), []⟩,
       ⟨2, some 8, none, .op .quiet (oMv (.tmp 26)), []⟩,
       ⟨3, some 9, none, .op .quiet (oMv (.tmp 27)), []⟩])
     (.ret))))⟩
end Go.Proofs.YtjfppkhaiooloaaGreatDoor.On

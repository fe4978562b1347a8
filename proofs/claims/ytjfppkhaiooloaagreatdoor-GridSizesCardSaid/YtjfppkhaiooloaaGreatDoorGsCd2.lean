/- The code of the functions, for the interpreter. -/
import Derived.Test.YtjfppkhaiooloaaGreatDoorAiB
namespace Go.Proofs.YtjfppkhaiooloaaGreatDoor.Gs
open Go.AI
set_option maxRecDepth 100000
/-- (*tangram/order.rim).lay -/
noncomputable def a328 : AF := ⟨[.tmp 4, .tmp 5],
 (.seq
   (.ops [⟨0, some 4, none, .op .quiet (oMv (.val (.slice none 0 0))), []⟩,
     ⟨1, some 5, none, .op .quiet (oMv (.val (.bool false))), []⟩])
   (.seq
    (.ops [⟨0, some 19, none, .op .quiet (oMkMap), []⟩,
      ⟨1, some 6, none, .op .quiet (oMv (.tmp 19)), []⟩])
    (.seq
     (.seq
      (.ops [⟨0, some 20, none, .op .quiet (oMv (.tmp 0)), []⟩,
        ⟨1, some 21, none, .op .quiet (oNilCheck (.tmp 20)), []⟩,
        ⟨2, some 22, none, .op .quiet (oFieldAddr 0 (.tmp 21)), []⟩,
        ⟨3, some 23, none, .op .reads (oLoad (.tmp 22)), []⟩,
        ⟨4, some 24, none, .op .quiet (oNilCheck (.tmp 23)), []⟩,
        ⟨5, some 25, none, .op .quiet (oFieldAddr 2 (.tmp 24)), []⟩,
        ⟨6, some 26, none, .op .reads (oLoad (.tmp 25)), []⟩,
        ⟨7, some 27, none, .op .quiet (oMv (.tmp 1)), []⟩,
        ⟨8, some 28, none, .op .quiet (oIdxS 1 (.tmp 26) (.tmp 27)), []⟩,
        ⟨9, some 29, none, .op .reads (oLoad (.tmp 28)), []⟩,
        ⟨10, some 30, none, .op .reads (oLen .slice (.tmp 29)), []⟩,
        ⟨11, some 31, none, .op .quiet (oMv (.val (.int .i64 0))), []⟩])
      (.block 0
       (.loop
        (.seq
         (.ops [⟨0, some 32, none, .op .quiet (oArith .lss (.tmp 31) (.tmp 30)), []⟩])
         (.seq
          (.cond (.tmp 32)
           (.skip)
           (.exit 0))
          (.seq
           (.block 1
            (.seq
             (.ops [⟨0, some 33, none, .op .quiet (oIdxS 1 (.tmp 29) (.tmp 31)), []⟩,
               ⟨1, some 34, none, .op .reads (oLoad (.tmp 33)), []⟩,
               ⟨2, some 8, none, .op .quiet (oMv (.tmp 34)), []⟩])
             (.seq
              (.drawn [⟨0, some 35, none, .op .quiet (oMv (.tmp 0)), []⟩,
                ⟨1, some 36, none, .op .quiet (oNilCheck (.tmp 35)), []⟩,
                ⟨2, some 37, none, .op .quiet (oFieldAddr 1 (.tmp 36)), []⟩,
                ⟨3, some 38, none, .op .reads (oLoad (.tmp 37)), []⟩,
                ⟨4, some 39, none, .op .quiet (oMv (.tmp 8)), []⟩,
                ⟨5, some 40, none, .op .quiet (oIdxS 1 (.tmp 38) (.tmp 39)), []⟩,
                ⟨6, some 41, none, .op .reads (oLoad (.tmp 40)), []⟩,
                ⟨7, some 42, none, .op .quiet (oMv (.tmp 0)), []⟩,
                ⟨8, some 43, none, .op .quiet (oNilCheck (.tmp 42)), []⟩,
                ⟨9, some 44, none, .op .quiet (oFieldAddr 1 (.tmp 43)), []⟩,
                ⟨10, some 45, none, .op .reads (oLoad (.tmp 44)), []⟩,
                ⟨11, some 46, none, .op .quiet (oMv (.tmp 1)), []⟩,
                ⟨12, some 47, none, .op .quiet (oIdxS 1 (.tmp 45) (.tmp 46)), []⟩,
                ⟨13, some 48, none, .op .reads (oLoad (.tmp 47)), []⟩,
                ⟨14, some 49, none, .op .quiet (oArith .lss (.tmp 41) (.tmp 48)), []⟩])
              (.cond (.tmp 49)
               (.ops [⟨0, some 50, none, .op .quiet (oMv (.tmp 6)), []⟩,
                 ⟨1, some 51, none, .op .quiet (oMv (.tmp 8)), []⟩,
                 ⟨2, none, none, .op .hard (oUpdate (.int .i64) (.tmp 50) (.tmp 51) (.val (.bool true))), []⟩])
               (.skip)))))
           (.ops [⟨0, some 52, none, .op .quiet (oArith .add (.tmp 31) (.val (.int .i64 1))), []⟩,
             ⟨1, some 31, none, .op .quiet (oMv (.tmp 52)), []⟩])))))))
     (.seq
      (.ops [⟨0, some 9, none, .op .quiet (oMv (.val (.slice none 0 0))), []⟩])
      (.seq
       (.ops [⟨0, some 10, none, .op .quiet (oMv (.val (.int .i64 (-1)))), []⟩])
       (.seq
        (.seq
         (.ops [⟨0, some 53, none, .op .quiet (oMv (.tmp 0)), []⟩,
           ⟨1, some 54, none, .op .quiet (oNilCheck (.tmp 53)), []⟩,
           ⟨2, some 55, none, .op .quiet (oFieldAddr 2 (.tmp 54)), []⟩,
           ⟨3, some 56, none, .op .reads (oLoad (.tmp 55)), []⟩,
           ⟨4, some 57, none, .op .reads (oLen .slice (.tmp 56)), []⟩,
           ⟨5, some 58, none, .op .quiet (oMv (.val (.int .i64 0))), []⟩])
         (.block 2
          (.loop
           (.seq
            (.ops [⟨0, some 59, none, .op .quiet (oArith .lss (.tmp 58) (.tmp 57)), []⟩])
            (.seq
             (.cond (.tmp 59)
              (.skip)
              (.exit 2))
             (.seq
              (.block 3
               (.seq
                (.ops [⟨0, some 60, none, .op .quiet (oMv (.tmp 58)), []⟩,
                  ⟨1, some 61, none, .op .quiet (oIdxS 1 (.tmp 56) (.tmp 58)), []⟩,
                  ⟨2, some 62, none, .op .reads (oLoad (.tmp 61)), []⟩,
                  ⟨3, some 11, none, .op .quiet (oMv (.tmp 60)), []⟩,
                  ⟨4, some 12, none, .op .quiet (oMv (.tmp 62)), []⟩])
                (.seq
                 (.ops [⟨0, some 63, none, .op .quiet (oMv (.tmp 6)), []⟩,
                   ⟨1, some 64, none, .op .quiet (oMv (.tmp 12)), []⟩,
                   ⟨2, some 65, none, .op .reads (oLookup (.int .i64) false (.bool false) (.tmp 63) (.tmp 64)), []⟩])
                 (.cond (.tmp 65)
                  (.seq
                   (.seq
                    (.ops [⟨0, some 66, none, .op .quiet (oMv (.tmp 10)), []⟩,
                      ⟨1, some 67, none, .op .quiet (oArith .lss (.tmp 66) (.val (.int .i64 0))), []⟩])
                    (.cond (.tmp 67)
                     (.ops [⟨0, some 68, none, .op .quiet (oMv (.tmp 11)), []⟩,
                       ⟨1, some 10, none, .op .quiet (oMv (.tmp 68)), []⟩])
                     (.skip)))
                   (.ops [⟨0, some 69, none, .op .quiet (oMv (.tmp 9)), []⟩,
                     ⟨1, some 70, none, .op .quiet (oMv (.tmp 12)), []⟩,
                     ⟨2, some 71, none, .op .quiet (oBuildSlice 1 1 [(.int .i64 0)] [(0, 1)] [(.tmp 70)]), []⟩,
                     ⟨3, some 72, none, .op .hard (oAppend 1 8 (.tmp 69) (.tmp 71)), []⟩,
                     ⟨4, some 9, none, .op .quiet (oMv (.tmp 72)), []⟩]))
                  (.skip)))))
              (.ops [⟨0, some 73, none, .op .quiet (oArith .add (.tmp 58) (.val (.int .i64 1))), []⟩,
                ⟨1, some 58, none, .op .quiet (oMv (.tmp 73)), []⟩])))))))
        (.seq
         (.ops [⟨0, some 74, none, .op .quiet (oMv (.tmp 10)), []⟩,
           ⟨1, some 75, none, .op .quiet (oMv (.tmp 9)), []⟩,
           ⟨2, some 76, none, .op .reads (oLen .slice (.tmp 75)), []⟩,
           ⟨3, some 77, none, .op .quiet (oArith .add (.tmp 74) (.tmp 76)), []⟩,
           ⟨4, some 78, none, .op .quiet (oArith .sub (.tmp 77) (.val (.int .i64 1))), []⟩,
           ⟨5, some 13, none, .op .quiet (oMv (.tmp 78)), []⟩])
         (.seq
          (.seq
           (.drawn [⟨0, some 79, none, .op .quiet (oMv (.tmp 9)), []⟩,
             ⟨1, some 80, none, .op .reads (oLen .slice (.tmp 79)), []⟩,
             ⟨2, some 81, none, .op .quiet (oArith .lss (.tmp 80) (.val (.int .i64 2))), []⟩,
             ⟨3, some 82, none, .op .quiet (oMv (.tmp 81)), []⟩,
             ⟨4, some 83, some (82, false), .op .quiet (oMv (.tmp 9)), []⟩,
             ⟨5, some 84, some (82, false), .op .reads (oLen .slice (.tmp 83)), []⟩,
             ⟨6, some 85, some (82, false), .op .quiet (oMv (.tmp 6)), []⟩,
             ⟨7, some 86, some (82, false), .op .reads (oLen .map (.tmp 85)), []⟩,
             ⟨8, some 87, some (82, false), .op .quiet (oArith .lss (.tmp 84) (.tmp 86)), []⟩,
             ⟨9, some 88, none, .op .quiet (oPick (.tmp 82) (.val (.bool true)) (.tmp 87)), []⟩,
             ⟨10, some 89, none, .op .quiet (oMv (.tmp 88)), []⟩,
             ⟨11, some 90, some (89, false), .op .quiet (oMv (.tmp 6)), []⟩,
             ⟨12, some 91, some (89, false), .op .quiet (oMv (.tmp 0)), []⟩,
             ⟨13, some 92, some (89, false), .op .quiet (oNilCheck (.tmp 91)), []⟩,
             ⟨14, some 93, some (89, false), .op .quiet (oFieldAddr 2 (.tmp 92)), []⟩,
             ⟨15, some 94, some (89, false), .op .reads (oLoad (.tmp 93)), []⟩,
             ⟨16, some 95, some (89, false), .op .quiet (oMv (.tmp 13)), []⟩,
             ⟨17, some 96, some (89, false), .op .quiet (oIdxS 1 (.tmp 94) (.tmp 95)), []⟩,
             ⟨18, some 97, some (89, false), .op .reads (oLoad (.tmp 96)), []⟩,
             ⟨19, some 98, some (89, false), .op .reads (oLookup (.int .i64) false (.bool false) (.tmp 90) (.tmp 97)), []⟩,
             ⟨20, some 99, some (89, false), .op .quiet (oNot (.tmp 98)), []⟩,
             ⟨21, some 100, none, .op .quiet (oPick (.tmp 89) (.val (.bool true)) (.tmp 99)), []⟩,
             ⟨22, some 101, none, .op .quiet (oMv (.tmp 100)), []⟩,
             ⟨23, some 102, some (101, false), .op .quiet (oMv (.tmp 0)), []⟩,
             ⟨24, some 103, some (101, false), .op .quiet (oNilCheck (.tmp 102)), []⟩,
             ⟨25, some 104, some (101, false), .op .quiet (oFieldAddr 2 (.tmp 103)), []⟩,
             ⟨26, some 105, some (101, false), .op .reads (oLoad (.tmp 104)), []⟩,
             ⟨27, some 106, some (101, false), .op .quiet (oMv (.tmp 13)), []⟩,
             ⟨28, some 107, some (101, false), .op .quiet (oIdxS 1 (.tmp 105) (.tmp 106)), []⟩,
             ⟨29, some 108, some (101, false), .op .reads (oLoad (.tmp 107)), []⟩,
             ⟨30, some 109, some (101, false), .op .quiet (oMv (.tmp 9)), []⟩,
             ⟨31, some 110, some (101, false), .op .quiet (oMv (.tmp 9)), []⟩,
             ⟨32, some 111, some (101, false), .op .reads (oLen .slice (.tmp 110)), []⟩,
             ⟨33, some 112, some (101, false), .op .quiet (oArith .sub (.tmp 111) (.val (.int .i64 1))), []⟩,
             ⟨34, some 113, some (101, false), .op .quiet (oIdxS 1 (.tmp 109) (.tmp 112)), []⟩,
             ⟨35, some 114, some (101, false), .op .reads (oLoad (.tmp 113)), []⟩,
             ⟨36, some 115, some (101, false), .op .quiet (oArith .neq (.tmp 108) (.tmp 114)), []⟩,
             ⟨37, some 116, none, .op .quiet (oPick (.tmp 101) (.val (.bool true)) (.tmp 115)), []⟩])
           (.cond (.tmp 116)
            (.seq
             (.ops [⟨0, some 4, none, .op .quiet (oMv (.val (.slice none 0 0))), []⟩,
               ⟨1, some 5, none, .op .quiet (oMv (.val (.bool false))), []⟩])
             (.ret))
            (.skip)))
          (.seq
           (.seq
            (.ops [⟨0, some 117, none, .op .quiet (oMv (.tmp 9)), []⟩,
              ⟨1, some 118, none, .op .quiet (oMv (.tmp 9)), []⟩,
              ⟨2, some 119, none, .op .reads (oLen .slice (.tmp 118)), []⟩,
              ⟨3, some 120, none, .op .quiet (oArith .sub (.tmp 119) (.val (.int .i64 1))), []⟩,
              ⟨4, some 121, none, .op .quiet (oSlice 1 (.tmp 117) (some (.val (.int .i64 1))) (some (.tmp 120)) none), []⟩,
              ⟨5, some 122, none, .op .reads (oLen .slice (.tmp 121)), []⟩,
              ⟨6, some 123, none, .op .quiet (oMv (.val (.int .i64 0))), []⟩])
            (.block 4
             (.loop
              (.seq
               (.ops [⟨0, some 124, none, .op .quiet (oArith .lss (.tmp 123) (.tmp 122)), []⟩])
               (.seq
                (.cond (.tmp 124)
                 (.skip)
                 (.exit 4))
                (.seq
                 (.block 5
                  (.seq
                   (.ops [⟨0, some 125, none, .op .quiet (oIdxS 1 (.tmp 121) (.tmp 123)), []⟩,
                     ⟨1, some 126, none, .op .reads (oLoad (.tmp 125)), []⟩,
                     ⟨2, some 15, none, .op .quiet (oMv (.tmp 126)), []⟩])
                   (.seq
                    (.ops [⟨0, some 127, none, .op .quiet (oMv (.tmp 0)), []⟩,
                      ⟨1, some 128, none, .op .quiet (oNilCheck (.tmp 127)), []⟩,
                      ⟨2, some 129, none, .op .quiet (oFieldAddr 0 (.tmp 128)), []⟩,
                      ⟨3, some 130, none, .op .reads (oLoad (.tmp 129)), []⟩,
                      ⟨4, some 131, none, .op .quiet (oNilCheck (.tmp 130)), []⟩,
                      ⟨5, some 132, none, .op .quiet (oFieldAddr 2 (.tmp 131)), []⟩,
                      ⟨6, some 133, none, .op .reads (oLoad (.tmp 132)), []⟩,
                      ⟨7, some 134, none, .op .quiet (oMv (.tmp 15)), []⟩,
                      ⟨8, some 135, none, .op .quiet (oIdxS 1 (.tmp 133) (.tmp 134)), []⟩,
                      ⟨9, some 136, none, .op .reads (oLoad (.tmp 135)), []⟩,
                      ⟨10, some 137, none, .op .reads (oLen .slice (.tmp 136)), []⟩,
                      ⟨11, some 138, none, .op .quiet (oMv (.val (.int .i64 0))), []⟩])
                    (.block 6
                     (.loop
                      (.seq
                       (.ops [⟨0, some 139, none, .op .quiet (oArith .lss (.tmp 138) (.tmp 137)), []⟩])
                       (.seq
                        (.cond (.tmp 139)
                         (.skip)
                         (.exit 6))
                        (.seq
                         (.block 7
                          (.seq
                           (.ops [⟨0, some 140, none, .op .quiet (oIdxS 1 (.tmp 136) (.tmp 138)), []⟩,
                             ⟨1, some 141, none, .op .reads (oLoad (.tmp 140)), []⟩,
                             ⟨2, some 17, none, .op .quiet (oMv (.tmp 141)), []⟩])
                           (.seq
                            (.drawn [⟨0, some 142, none, .op .quiet (oMv (.tmp 0)), []⟩,
                              ⟨1, some 143, none, .op .quiet (oNilCheck (.tmp 142)), []⟩,
                              ⟨2, some 144, none, .op .quiet (oFieldAddr 1 (.tmp 143)), []⟩,
                              ⟨3, some 145, none, .op .reads (oLoad (.tmp 144)), []⟩,
                              ⟨4, some 146, none, .op .quiet (oMv (.tmp 17)), []⟩,
                              ⟨5, some 147, none, .op .quiet (oIdxS 1 (.tmp 145) (.tmp 146)), []⟩,
                              ⟨6, some 148, none, .op .reads (oLoad (.tmp 147)), []⟩,
                              ⟨7, some 149, none, .op .quiet (oMv (.tmp 0)), []⟩,
                              ⟨8, some 150, none, .op .quiet (oNilCheck (.tmp 149)), []⟩,
                              ⟨9, some 151, none, .op .quiet (oFieldAddr 1 (.tmp 150)), []⟩,
                              ⟨10, some 152, none, .op .reads (oLoad (.tmp 151)), []⟩,
                              ⟨11, some 153, none, .op .quiet (oMv (.tmp 1)), []⟩,
                              ⟨12, some 154, none, .op .quiet (oIdxS 1 (.tmp 152) (.tmp 153)), []⟩,
                              ⟨13, some 155, none, .op .reads (oLoad (.tmp 154)), []⟩,
                              ⟨14, some 156, none, .op .quiet (oArith .gtr (.tmp 148) (.tmp 155)), []⟩])
                            (.cond (.tmp 156)
                             (.seq
                              (.ops [⟨0, some 4, none, .op .quiet (oMv (.val (.slice none 0 0))), []⟩,
                                ⟨1, some 5, none, .op .quiet (oMv (.val (.bool false))), []⟩])
                              (.ret))
                             (.skip)))))
                         (.ops [⟨0, some 157, none, .op .quiet (oArith .add (.tmp 138) (.val (.int .i64 1))), []⟩,
                           ⟨1, some 138, none, .op .quiet (oMv (.tmp 157)), []⟩])))))))))
                 (.ops [⟨0, some 158, none, .op .quiet (oArith .add (.tmp 123) (.val (.int .i64 1))), []⟩,
                   ⟨1, some 123, none, .op .quiet (oMv (.tmp 158)), []⟩])))))))
           (.seq
            (.ops [⟨0, some 159, none, .op .quiet (oBuildSlice 1 0 [(.int .i64 0)] [] []), []⟩,
              ⟨1, some 160, none, .op .quiet (oMv (.tmp 0)), []⟩,
              ⟨2, some 161, none, .op .quiet (oNilCheck (.tmp 160)), []⟩,
              ⟨3, some 162, none, .op .quiet (oFieldAddr 2 (.tmp 161)), []⟩,
              ⟨4, some 163, none, .op .reads (oLoad (.tmp 162)), []⟩,
              ⟨5, some 164, none, .op .quiet (oMv (.tmp 10)), []⟩,
              ⟨6, some 165, none, .op .quiet (oArith .add (.tmp 164) (.val (.int .i64 1))), []⟩,
              ⟨7, some 166, none, .op .quiet (oSlice 1 (.tmp 163) none (some (.tmp 165)) none), []⟩,
              ⟨8, some 167, none, .op .hard (oAppend 1 8 (.tmp 159) (.tmp 166)), []⟩,
              ⟨9, some 18, none, .op .quiet (oMv (.tmp 167)), []⟩])
            (.seq
             (.ops [⟨0, some 168, none, .op .quiet (oMv (.tmp 18)), []⟩,
               ⟨1, some 169, none, .op .quiet (oMv (.tmp 1)), []⟩,
               ⟨2, some 170, none, .op .quiet (oBuildSlice 1 1 [(.int .i64 0)] [(0, 1)] [(.tmp 169)]), []⟩,
               ⟨3, some 171, none, .op .hard (oAppend 1 8 (.tmp 168) (.tmp 170)), []⟩,
               ⟨4, some 18, none, .op .quiet (oMv (.tmp 171)), []⟩])
             (.seq
              (.ops [⟨0, some 172, none, .op .quiet (oMv (.tmp 0)), []⟩,
                ⟨1, some 173, none, .op .quiet (oMv (.tmp 18)), []⟩,
                ⟨2, some 174, none, .op .quiet (oMv (.tmp 0)), []⟩,
                ⟨3, some 175, none, .op .quiet (oNilCheck (.tmp 174)), []⟩,
                ⟨4, some 176, none, .op .quiet (oFieldAddr 2 (.tmp 175)), []⟩,
                ⟨5, some 177, none, .op .reads (oLoad (.tmp 176)), []⟩,
                ⟨6, some 178, none, .op .quiet (oMv (.tmp 13)), []⟩,
                ⟨7, some 179, none, .op .quiet (oSlice 1 (.tmp 177) (some (.tmp 178)) none none), []⟩,
                ⟨8, some 180, none, .op .hard (oAppend 1 8 (.tmp 173) (.tmp 179)), []⟩,
                ⟨9, some 181, none, .op .quiet (oNilCheck (.tmp 172)), []⟩,
                ⟨10, some 182, none, .op .quiet (oFieldAddr 2 (.tmp 181)), []⟩,
                ⟨11, none, none, .op .hard (oStore 1 (.tmp 182) (.tmp 180)), []⟩])
              (.seq
               (.ops [⟨0, some 183, none, .op .quiet (oMv (.tmp 9)), []⟩,
                 ⟨1, some 4, none, .op .quiet (oMv (.tmp 183)), []⟩,
                 ⟨2, some 5, none, .op .quiet (oMv (.val (.bool true))), []⟩])
               (.ret))))))))))))))⟩
/-- (*tangram/csr.Adj).N -/
noncomputable def a329 : AF := ⟨[.tmp 2],
 (.seq
   (.ops [⟨0, some 2, none, .op .quiet (oMv (.val (.int .i64 0))), []⟩])
   (.seq
    (.seq
     (.ops [⟨0, some 3, none, .op .quiet (oMv (.tmp 0)), []⟩,
       ⟨1, some 4, none, .op .quiet (oEq false .ptrNil (.tmp 3) (.val (.pointer none))), []⟩])
     (.cond (.tmp 4)
      (.seq
       (.ops [⟨0, some 2, none, .op .quiet (oMv (.val (.int .i64 0))), []⟩])
       (.ret))
      (.skip)))
    (.seq
     (.ops [⟨0, some 5, none, .op .quiet (oMv (.tmp 0)), []⟩,
       ⟨1, some 6, none, .op .quiet (oNilCheck (.tmp 5)), []⟩,
       ⟨2, some 7, none, .op .quiet (oFieldAddr 1 (.tmp 6)), []⟩,
       ⟨3, some 8, none, .op .reads (oLoad (.tmp 7)), []⟩,
       ⟨4, some 9, none, .op .reads (oLen .slice (.tmp 8)), []⟩,
       ⟨5, some 10, none, .op .quiet (oArith .sub (.tmp 9) (.val (.int .i64 1))), []⟩,
       ⟨6, some 2, none, .op .quiet (oMv (.tmp 10)), []⟩])
     (.ret))))⟩
/-- (*tangram/embed.ring).behind -/
noncomputable def a330 : AF := ⟨[],
 (.seq
   (.ops [⟨0, some 7, none, .op .quiet (oMv (.tmp 0)), []⟩,
     ⟨1, some 8, none, .op .quiet (oNilCheck (.tmp 7)), []⟩,
     ⟨2, some 9, none, .op .quiet (oFieldAddr 6 (.tmp 8)), []⟩,
     ⟨3, some 10, none, .op .reads (oLoad (.tmp 9)), []⟩,
     ⟨4, some 11, none, .op .quiet (oMv (.tmp 1)), []⟩,
     ⟨5, some 12, none, .op .quiet (oIdxS 1 (.tmp 10) (.tmp 11)), []⟩,
     ⟨6, some 13, none, .op .reads (oLoad (.tmp 12)), []⟩,
     ⟨7, some 6, none, .op .quiet (oMv (.tmp 13)), []⟩])
   (.drawn [⟨0, some 14, none, .op .quiet (oMv (.tmp 0)), []⟩,
     ⟨1, some 15, none, .op .quiet (oNilCheck (.tmp 14)), []⟩,
     ⟨2, some 16, none, .op .quiet (oFieldAddr 6 (.tmp 15)), []⟩,
     ⟨3, some 17, none, .op .reads (oLoad (.tmp 16)), []⟩,
     ⟨4, some 18, none, .op .quiet (oMv (.tmp 1)), []⟩,
     ⟨5, some 19, none, .op .quiet (oMv (.tmp 0)), []⟩,
     ⟨6, some 20, none, .op .quiet (oNilCheck (.tmp 19)), []⟩,
     ⟨7, some 21, none, .op .quiet (oFieldAddr 7 (.tmp 20)), []⟩,
     ⟨8, some 22, none, .op .reads (oLoad (.tmp 21)), []⟩,
     ⟨9, some 23, none, .op .quiet (oMv (.tmp 2)), []⟩,
     ⟨10, some 24, none, .op .quiet (oMv (.tmp 0)), []⟩,
     ⟨11, some 25, none, .op .quiet (oNilCheck (.tmp 24)), []⟩,
     ⟨12, some 26, none, .op .quiet (oFieldAddr 6 (.tmp 25)), []⟩,
     ⟨13, some 27, none, .op .reads (oLoad (.tmp 26)), []⟩,
     ⟨14, some 28, none, .op .quiet (oMv (.tmp 2)), []⟩,
     ⟨15, some 29, none, .op .quiet (oMv (.tmp 0)), []⟩,
     ⟨16, some 30, none, .op .quiet (oNilCheck (.tmp 29)), []⟩,
     ⟨17, some 31, none, .op .quiet (oFieldAddr 7 (.tmp 30)), []⟩,
     ⟨18, some 32, none, .op .reads (oLoad (.tmp 31)), []⟩,
     ⟨19, some 33, none, .op .quiet (oMv (.tmp 6)), []⟩,
     ⟨20, some 34, none, .op .quiet (oMv (.tmp 2)), []⟩,
     ⟨21, some 35, none, .op .quiet (oMv (.tmp 1)), []⟩,
     ⟨22, some 36, none, .op .quiet (oMv (.tmp 6)), []⟩,
     ⟨23, some 37, none, .op .quiet (oMv (.tmp 2)), []⟩,
     ⟨24, some 38, none, .op .quiet (oIdxS 1 (.tmp 17) (.tmp 18)), []⟩,
     ⟨25, none, none, .op .hard (oStore 1 (.tmp 38) (.tmp 34)), []⟩,
     ⟨26, some 39, none, .op .quiet (oIdxS 1 (.tmp 22) (.tmp 23)), []⟩,
     ⟨27, none, none, .op .hard (oStore 1 (.tmp 39) (.tmp 35)), []⟩,
     ⟨28, some 40, none, .op .quiet (oIdxS 1 (.tmp 27) (.tmp 28)), []⟩,
     ⟨29, none, none, .op .hard (oStore 1 (.tmp 40) (.tmp 36)), []⟩,
     ⟨30, some 41, none, .op .quiet (oIdxS 1 (.tmp 32) (.tmp 33)), []⟩,
     ⟨31, none, none, .op .hard (oStore 1 (.tmp 41) (.tmp 37)), []⟩]))⟩
/-- slices.AppendSeq[[]int,int] -/
noncomputable def a331 : AF := ⟨[.tmp 4],
 (.seq
   (.ops [⟨0, some 2, none, .op .quiet (oBox (.tmp 0)), []⟩,
     ⟨1, some 4, none, .op .quiet (oMv (.val (.slice none 0 0))), []⟩])
   (.seq
    (.seq
     (.ops [⟨0, some 6, none, .op .quiet (oMv (.tmp 1)), []⟩])
     (.block 0
      (.range (.tmp 6) 331006)))
    (.seq
     (.ops [⟨0, some 12, none, .op .reads (oLoad (.tmp 2)), []⟩,
       ⟨1, some 4, none, .op .quiet (oMv (.tmp 12)), []⟩])
     (.ret))))⟩
noncomputable def l331006 : AL := ⟨[7],
 (.ops [⟨0, some 5, none, .op .quiet (oMv (.tmp 7)), []⟩]),
 (.block 1
   (.ops [⟨0, some 8, none, .op .reads (oLoad (.tmp 2)), []⟩,
     ⟨1, some 9, none, .op .quiet (oMv (.tmp 5)), []⟩,
     ⟨2, some 10, none, .op .quiet (oBuildSlice 1 1 [(.int .i64 0)] [(0, 1)] [(.tmp 9)]), []⟩,
     ⟨3, some 11, none, .op .hard (oAppend 1 8 (.tmp 8) (.tmp 10)), []⟩,
     ⟨4, none, none, .op .hard (oStore 1 (.tmp 2) (.tmp 11)), []⟩]))⟩
/-- slices.pdqsortOrdered[int] -/
noncomputable def a332 : AF := ⟨[],
 (.seq
   (.ops [⟨0, some 8, none, .op .quiet (oMv (.val (.bool true))), []⟩])
   (.seq
    (.ops [⟨0, some 9, none, .op .quiet (oMv (.val (.bool true))), []⟩])
    (.block 0
     (.loop
      (.block 1
       (.seq
        (.ops [⟨0, some 19, none, .op .quiet (oMv (.tmp 2)), []⟩,
          ⟨1, some 20, none, .op .quiet (oMv (.tmp 1)), []⟩,
          ⟨2, some 21, none, .op .quiet (oArith .sub (.tmp 19) (.tmp 20)), []⟩,
          ⟨3, some 10, none, .op .quiet (oMv (.tmp 21)), []⟩])
        (.seq
         (.seq
          (.ops [⟨0, some 22, none, .op .quiet (oMv (.tmp 10)), []⟩,
            ⟨1, some 23, none, .op .quiet (oArith .leq (.tmp 22) (.val (.int .i64 12))), []⟩])
          (.cond (.tmp 23)
           (.seq
            (.ops [⟨0, some 24, none, .op .quiet (oMv (.tmp 0)), []⟩,
              ⟨1, some 25, none, .op .quiet (oMv (.tmp 1)), []⟩,
              ⟨2, some 26, none, .op .quiet (oMv (.tmp 2)), []⟩,
              ⟨3, some 27, none, .callF 351 [(.tmp 24), (.tmp 25), (.tmp 26)], []⟩])
            (.ret))
           (.skip)))
         (.seq
          (.seq
           (.ops [⟨0, some 28, none, .op .quiet (oMv (.tmp 3)), []⟩,
             ⟨1, some 29, none, .op .quiet (oArith .eql (.tmp 28) (.val (.int .i64 0))), []⟩])
           (.cond (.tmp 29)
            (.seq
             (.ops [⟨0, some 30, none, .op .quiet (oMv (.tmp 0)), []⟩,
               ⟨1, some 31, none, .op .quiet (oMv (.tmp 1)), []⟩,
               ⟨2, some 32, none, .op .quiet (oMv (.tmp 2)), []⟩,
               ⟨3, some 33, none, .callF 352 [(.tmp 30), (.tmp 31), (.tmp 32)], []⟩])
             (.ret))
            (.skip)))
          (.seq
           (.seq
            (.ops [⟨0, some 34, none, .op .quiet (oMv (.tmp 8)), []⟩,
              ⟨1, some 35, none, .op .quiet (oNot (.tmp 34)), []⟩])
            (.cond (.tmp 35)
             (.seq
              (.ops [⟨0, some 36, none, .op .quiet (oMv (.tmp 0)), []⟩,
                ⟨1, some 37, none, .op .quiet (oMv (.tmp 1)), []⟩,
                ⟨2, some 38, none, .op .quiet (oMv (.tmp 2)), []⟩,
                ⟨3, some 39, none, .callF 353 [(.tmp 36), (.tmp 37), (.tmp 38)], []⟩])
              (.ops [⟨0, some 40, none, .op .quiet (oMv (.tmp 3)), []⟩,
                ⟨1, some 41, none, .op .quiet (oArith .sub (.tmp 40) (.val (.int .i64 1))), []⟩,
                ⟨2, some 3, none, .op .quiet (oMv (.tmp 41)), []⟩]))
             (.skip)))
           (.seq
            (.ops [⟨0, some 43, none, .op .quiet (oMv (.tmp 0)), []⟩,
              ⟨1, some 44, none, .op .quiet (oMv (.tmp 1)), []⟩,
              ⟨2, some 45, none, .op .quiet (oMv (.tmp 2)), []⟩,
              ⟨3, some 46, none, .callF 354 [(.tmp 43), (.tmp 44), (.tmp 45)], []⟩,
              ⟨4, some 42, none, .op .quiet (oMv (.tmp 46)), []⟩,
              ⟨5, some 47, none, .op .quiet (oExtract 0 (.tmp 42)), []⟩,
              ⟨6, some 48, none, .op .quiet (oExtract 1 (.tmp 42)), []⟩,
              ⟨7, some 11, none, .op .quiet (oMv (.tmp 47)), []⟩,
              ⟨8, some 12, none, .op .quiet (oMv (.tmp 48)), []⟩])
            (.seq
             (.seq
              (.ops [⟨0, some 49, none, .op .quiet (oMv (.tmp 12)), []⟩,
                ⟨1, some 50, none, .op .quiet (oArith .eql (.tmp 49) (.val (.int .i64 2))), []⟩])
              (.cond (.tmp 50)
               (.seq
                (.ops [⟨0, some 51, none, .op .quiet (oMv (.tmp 0)), []⟩,
                  ⟨1, some 52, none, .op .quiet (oMv (.tmp 1)), []⟩,
                  ⟨2, some 53, none, .op .quiet (oMv (.tmp 2)), []⟩,
                  ⟨3, some 54, none, .callF 355 [(.tmp 51), (.tmp 52), (.tmp 53)], []⟩])
                (.seq
                 (.ops [⟨0, some 55, none, .op .quiet (oMv (.tmp 2)), []⟩,
                   ⟨1, some 56, none, .op .quiet (oArith .sub (.tmp 55) (.val (.int .i64 1))), []⟩,
                   ⟨2, some 57, none, .op .quiet (oMv (.tmp 11)), []⟩,
                   ⟨3, some 58, none, .op .quiet (oMv (.tmp 1)), []⟩,
                   ⟨4, some 59, none, .op .quiet (oArith .sub (.tmp 57) (.tmp 58)), []⟩,
                   ⟨5, some 60, none, .op .quiet (oArith .sub (.tmp 56) (.tmp 59)), []⟩,
                   ⟨6, some 11, none, .op .quiet (oMv (.tmp 60)), []⟩])
                 (.ops [⟨0, some 12, none, .op .quiet (oMv (.val (.int .i64 1))), []⟩])))
               (.skip)))
             (.seq
              (.seq
               (.ops [⟨0, some 61, none, .op .quiet (oMv (.tmp 8)), []⟩,
                 ⟨1, some 62, none, .op .quiet (oMv (.tmp 61)), []⟩,
                 ⟨2, some 63, some (62, true), .op .quiet (oMv (.tmp 9)), []⟩,
                 ⟨3, some 64, none, .op .quiet (oPick (.tmp 62) (.tmp 63) (.val (.bool false))), []⟩,
                 ⟨4, some 65, none, .op .quiet (oMv (.tmp 64)), []⟩,
                 ⟨5, some 66, some (65, true), .op .quiet (oMv (.tmp 12)), []⟩,
                 ⟨6, some 67, some (65, true), .op .quiet (oArith .eql (.tmp 66) (.val (.int .i64 1))), []⟩,
                 ⟨7, some 68, none, .op .quiet (oPick (.tmp 65) (.tmp 67) (.val (.bool false))), []⟩])
               (.cond (.tmp 68)
                (.seq
                 (.ops [⟨0, some 69, none, .op .quiet (oMv (.tmp 0)), []⟩,
                   ⟨1, some 70, none, .op .quiet (oMv (.tmp 1)), []⟩,
                   ⟨2, some 71, none, .op .quiet (oMv (.tmp 2)), []⟩,
                   ⟨3, some 72, none, .callF 356 [(.tmp 69), (.tmp 70), (.tmp 71)], []⟩])
                 (.cond (.tmp 72)
                  (.ret)
                  (.skip)))
                (.skip)))
              (.seq
               (.seq
                (.drawn [⟨0, some 73, none, .op .quiet (oMv (.tmp 1)), []⟩,
                  ⟨1, some 74, none, .op .quiet (oArith .gtr (.tmp 73) (.val (.int .i64 0))), []⟩,
                  ⟨2, some 75, none, .op .quiet (oMv (.tmp 74)), []⟩,
                  ⟨3, some 76, some (75, true), .op .quiet (oMv (.tmp 0)), []⟩,
                  ⟨4, some 77, some (75, true), .op .quiet (oMv (.tmp 1)), []⟩,
                  ⟨5, some 78, some (75, true), .op .quiet (oArith .sub (.tmp 77) (.val (.int .i64 1))), []⟩,
                  ⟨6, some 79, some (75, true), .op .quiet (oIdxS 1 (.tmp 76) (.tmp 78)), []⟩,
                  ⟨7, some 80, some (75, true), .op .reads (oLoad (.tmp 79)), []⟩,
                  ⟨8, some 81, some (75, true), .op .quiet (oMv (.tmp 0)), []⟩,
                  ⟨9, some 82, some (75, true), .op .quiet (oMv (.tmp 11)), []⟩,
                  ⟨10, some 83, some (75, true), .op .quiet (oIdxS 1 (.tmp 81) (.tmp 82)), []⟩,
                  ⟨11, some 84, some (75, true), .op .reads (oLoad (.tmp 83)), []⟩,
                  ⟨12, some 85, some (75, true), .callF 357 [(.tmp 80), (.tmp 84)], []⟩,
                  ⟨13, some 86, some (75, true), .op .quiet (oNot (.tmp 85)), []⟩,
                  ⟨14, some 87, none, .op .quiet (oPick (.tmp 75) (.tmp 86) (.val (.bool false))), []⟩])
                (.cond (.tmp 87)
                 (.seq
                  (.ops [⟨0, some 88, none, .op .quiet (oMv (.tmp 0)), []⟩,
                    ⟨1, some 89, none, .op .quiet (oMv (.tmp 1)), []⟩,
                    ⟨2, some 90, none, .op .quiet (oMv (.tmp 2)), []⟩,
                    ⟨3, some 91, none, .op .quiet (oMv (.tmp 11)), []⟩,
                    ⟨4, some 92, none, .callF 358 [(.tmp 88), (.tmp 89), (.tmp 90), (.tmp 91)], []⟩,
                    ⟨5, some 13, none, .op .quiet (oMv (.tmp 92)), []⟩])
                  (.seq
                   (.ops [⟨0, some 93, none, .op .quiet (oMv (.tmp 13)), []⟩,
                     ⟨1, some 1, none, .op .quiet (oMv (.tmp 93)), []⟩])
                   (.exit 1)))
                 (.skip)))
               (.seq
                (.ops [⟨0, some 95, none, .op .quiet (oMv (.tmp 0)), []⟩,
                  ⟨1, some 96, none, .op .quiet (oMv (.tmp 1)), []⟩,
                  ⟨2, some 97, none, .op .quiet (oMv (.tmp 2)), []⟩,
                  ⟨3, some 98, none, .op .quiet (oMv (.tmp 11)), []⟩,
                  ⟨4, some 99, none, .callF 359 [(.tmp 95), (.tmp 96), (.tmp 97), (.tmp 98)], []⟩,
                  ⟨5, some 94, none, .op .quiet (oMv (.tmp 99)), []⟩,
                  ⟨6, some 100, none, .op .quiet (oExtract 0 (.tmp 94)), []⟩,
                  ⟨7, some 101, none, .op .quiet (oExtract 1 (.tmp 94)), []⟩,
                  ⟨8, some 14, none, .op .quiet (oMv (.tmp 100)), []⟩,
                  ⟨9, some 15, none, .op .quiet (oMv (.tmp 101)), []⟩])
                (.seq
                 (.ops [⟨0, some 102, none, .op .quiet (oMv (.tmp 15)), []⟩,
                   ⟨1, some 9, none, .op .quiet (oMv (.tmp 102)), []⟩])
                 (.seq
                  (.ops [⟨0, some 103, none, .op .quiet (oMv (.tmp 14)), []⟩,
                    ⟨1, some 104, none, .op .quiet (oMv (.tmp 1)), []⟩,
                    ⟨2, some 105, none, .op .quiet (oArith .sub (.tmp 103) (.tmp 104)), []⟩,
                    ⟨3, some 106, none, .op .quiet (oMv (.tmp 2)), []⟩,
                    ⟨4, some 107, none, .op .quiet (oMv (.tmp 14)), []⟩,
                    ⟨5, some 108, none, .op .quiet (oArith .sub (.tmp 106) (.tmp 107)), []⟩,
                    ⟨6, some 16, none, .op .quiet (oMv (.tmp 105)), []⟩,
                    ⟨7, some 17, none, .op .quiet (oMv (.tmp 108)), []⟩])
                  (.seq
                   (.ops [⟨0, some 109, none, .op .quiet (oMv (.tmp 10)), []⟩,
                     ⟨1, some 110, none, .op .quiet (oArith .quo (.tmp 109) (.val (.int .i64 8))), []⟩,
                     ⟨2, some 18, none, .op .quiet (oMv (.tmp 110)), []⟩])
                   (.seq
                    (.ops [⟨0, some 111, none, .op .quiet (oMv (.tmp 16)), []⟩,
                      ⟨1, some 112, none, .op .quiet (oMv (.tmp 17)), []⟩,
                      ⟨2, some 113, none, .op .quiet (oArith .lss (.tmp 111) (.tmp 112)), []⟩])
                    (.cond (.tmp 113)
                     (.seq
                      (.ops [⟨0, some 114, none, .op .quiet (oMv (.tmp 16)), []⟩,
                        ⟨1, some 115, none, .op .quiet (oMv (.tmp 18)), []⟩,
                        ⟨2, some 116, none, .op .quiet (oArith .geq (.tmp 114) (.tmp 115)), []⟩,
                        ⟨3, some 8, none, .op .quiet (oMv (.tmp 116)), []⟩])
                      (.seq
                       (.ops [⟨0, some 117, none, .op .quiet (oMv (.tmp 0)), []⟩,
                         ⟨1, some 118, none, .op .quiet (oMv (.tmp 1)), []⟩,
                         ⟨2, some 119, none, .op .quiet (oMv (.tmp 14)), []⟩,
                         ⟨3, some 120, none, .op .quiet (oMv (.tmp 3)), []⟩,
                         ⟨4, some 121, none, .callF 332 [(.tmp 117), (.tmp 118), (.tmp 119), (.tmp 120)], []⟩])
                       (.ops [⟨0, some 122, none, .op .quiet (oMv (.tmp 14)), []⟩,
                         ⟨1, some 123, none, .op .quiet (oArith .add (.tmp 122) (.val (.int .i64 1))), []⟩,
                         ⟨2, some 1, none, .op .quiet (oMv (.tmp 123)), []⟩])))
                     (.seq
                      (.ops [⟨0, some 124, none, .op .quiet (oMv (.tmp 17)), []⟩,
                        ⟨1, some 125, none, .op .quiet (oMv (.tmp 18)), []⟩,
                        ⟨2, some 126, none, .op .quiet (oArith .geq (.tmp 124) (.tmp 125)), []⟩,
                        ⟨3, some 8, none, .op .quiet (oMv (.tmp 126)), []⟩])
                      (.seq
                       (.ops [⟨0, some 127, none, .op .quiet (oMv (.tmp 0)), []⟩,
                         ⟨1, some 128, none, .op .quiet (oMv (.tmp 14)), []⟩,
                         ⟨2, some 129, none, .op .quiet (oArith .add (.tmp 128) (.val (.int .i64 1))), []⟩,
                         ⟨3, some 130, none, .op .quiet (oMv (.tmp 2)), []⟩,
                         ⟨4, some 131, none, .op .quiet (oMv (.tmp 3)), []⟩,
                         ⟨5, some 132, none, .callF 332 [(.tmp 127), (.tmp 129), (.tmp 130), (.tmp 131)], []⟩])
                       (.ops [⟨0, some 133, none, .op .quiet (oMv (.tmp 14)), []⟩,
                         ⟨1, some 2, none, .op .quiet (oMv (.tmp 133)), []⟩]))))))))))))))))))))))⟩
/-- (*tangram/lr.test).under -/
noncomputable def a333 : AF := ⟨[.cellN 6 2],
 (.seq
   (.ops [⟨0, some 4, none, .op .quiet (oBox (.tmp 1)), []⟩,
     ⟨1, some 5, none, .op .quiet (oBox (.tmp 2)), []⟩,
     ⟨2, some 6, none, .op .quiet (oAlloc [(.int .i64 0), (.int .i64 0)]), []⟩])
   (.seq
    (.block 0
     (.seq
      (.ops [⟨0, some 8, none, .op .reads (oLoadN 2 (.tmp 5)), []⟩,
        ⟨1, some 9, none, .op .reads (oLoadN 2 (.val (.pointer (some ⟨0, 0, none⟩)))), []⟩,
        ⟨2, some 10, none, .op .quiet (oEq false (.ints 2) (.tmp 8) (.tmp 9)), []⟩,
        ⟨3, some 7, none, .op .quiet (oMv (.tmp 10)), []⟩])
      (.cond (.tmp 7)
       (.seq
        (.ops [⟨0, some 11, none, .op .reads (oLoadN 2 (.tmp 4)), []⟩,
          ⟨1, none, none, .op .hard (oStore 2 (.tmp 6) (.tmp 11)), []⟩])
        (.ret))
       (.seq
        (.ops [⟨0, some 13, none, .op .reads (oLoadN 2 (.tmp 4)), []⟩,
          ⟨1, some 14, none, .op .reads (oLoadN 2 (.val (.pointer (some ⟨0, 0, none⟩)))), []⟩,
          ⟨2, some 15, none, .op .quiet (oEq false (.ints 2) (.tmp 13) (.tmp 14)), []⟩,
          ⟨3, some 12, none, .op .quiet (oMv (.tmp 15)), []⟩])
        (.cond (.tmp 12)
         (.seq
          (.ops [⟨0, some 16, none, .op .reads (oLoadN 2 (.tmp 5)), []⟩,
            ⟨1, none, none, .op .hard (oStore 2 (.tmp 6) (.tmp 16)), []⟩])
          (.ret))
         (.skip))))))
    (.seq
     (.drawn [⟨0, some 17, none, .op .quiet (oMv (.tmp 0)), []⟩,
       ⟨1, some 18, none, .op .quiet (oNilCheck (.tmp 17)), []⟩,
       ⟨2, some 19, none, .op .quiet (oFieldAddr 11 (.tmp 18)), []⟩,
       ⟨3, some 20, none, .op .reads (oLoad (.tmp 19)), []⟩,
       ⟨4, some 21, none, .op .quiet (oFieldAddr 0 (.tmp 4)), []⟩,
       ⟨5, some 22, none, .op .reads (oLoad (.tmp 21)), []⟩,
       ⟨6, some 23, none, .op .quiet (oFieldAddr 1 (.tmp 5)), []⟩,
       ⟨7, some 24, none, .op .reads (oLoad (.tmp 23)), []⟩,
       ⟨8, some 25, none, .op .quiet (oIdxS 1 (.tmp 20) (.tmp 22)), []⟩,
       ⟨9, none, none, .op .hard (oStore 1 (.tmp 25) (.tmp 24)), []⟩])
     (.seq
      (.ops [⟨0, some 26, none, .op .quiet (oFieldAddr 0 (.tmp 5)), []⟩,
        ⟨1, some 27, none, .op .reads (oLoad (.tmp 26)), []⟩,
        ⟨2, some 28, none, .op .quiet (oFieldAddr 1 (.tmp 4)), []⟩,
        ⟨3, some 29, none, .op .reads (oLoad (.tmp 28)), []⟩,
        ⟨4, some 30, none, .op .quiet (oBuild [(.int .i64 0), (.int .i64 0)] [(0, 1), (1, 1)] [(.tmp 27), (.tmp 29)]), []⟩,
        ⟨5, none, none, .op .hard (oStore 2 (.tmp 6) (.tmp 30)), []⟩])
      (.ret)))))⟩
/-- (*tangram/lr.test).conflicts -/
noncomputable def a334 : AF := ⟨[.tmp 6],
 (.seq
   (.ops [⟨0, some 4, none, .op .quiet (oBox (.tmp 1)), []⟩,
     ⟨1, some 6, none, .op .quiet (oMv (.val (.bool false))), []⟩])
   (.seq
    (.drawn [⟨0, some 7, none, .op .reads (oLoadN 2 (.tmp 4)), []⟩,
      ⟨1, some 8, none, .op .reads (oLoadN 2 (.val (.pointer (some ⟨0, 0, none⟩)))), []⟩,
      ⟨2, some 9, none, .op .quiet (oEq true (.ints 2) (.tmp 7) (.tmp 8)), []⟩,
      ⟨3, some 10, none, .op .quiet (oMv (.tmp 9)), []⟩,
      ⟨4, some 11, some (10, true), .op .quiet (oMv (.tmp 0)), []⟩,
      ⟨5, some 12, some (10, true), .op .quiet (oNilCheck (.tmp 11)), []⟩,
      ⟨6, some 13, some (10, true), .op .quiet (oFieldAddr 6 (.tmp 12)), []⟩,
      ⟨7, some 14, some (10, true), .op .quiet (oFieldAddr 0 (.tmp 13)), []⟩,
      ⟨8, some 15, some (10, true), .op .reads (oLoad (.tmp 14)), []⟩,
      ⟨9, some 16, some (10, true), .op .quiet (oFieldAddr 1 (.tmp 4)), []⟩,
      ⟨10, some 17, some (10, true), .op .reads (oLoad (.tmp 16)), []⟩,
      ⟨11, some 18, some (10, true), .op .quiet (oIdxS 1 (.tmp 15) (.tmp 17)), []⟩,
      ⟨12, some 19, some (10, true), .op .reads (oLoad (.tmp 18)), []⟩,
      ⟨13, some 20, some (10, true), .op .quiet (oMv (.tmp 0)), []⟩,
      ⟨14, some 21, some (10, true), .op .quiet (oNilCheck (.tmp 20)), []⟩,
      ⟨15, some 22, some (10, true), .op .quiet (oFieldAddr 6 (.tmp 21)), []⟩,
      ⟨16, some 23, some (10, true), .op .quiet (oFieldAddr 0 (.tmp 22)), []⟩,
      ⟨17, some 24, some (10, true), .op .reads (oLoad (.tmp 23)), []⟩,
      ⟨18, some 25, some (10, true), .op .quiet (oMv (.tmp 2)), []⟩,
      ⟨19, some 26, some (10, true), .op .quiet (oIdxS 1 (.tmp 24) (.tmp 25)), []⟩,
      ⟨20, some 27, some (10, true), .op .reads (oLoad (.tmp 26)), []⟩,
      ⟨21, some 28, some (10, true), .op .quiet (oArith .gtr (.tmp 19) (.tmp 27)), []⟩,
      ⟨22, some 29, none, .op .quiet (oPick (.tmp 10) (.tmp 28) (.val (.bool false))), []⟩,
      ⟨23, some 6, none, .op .quiet (oMv (.tmp 29)), []⟩])
    (.ret)))⟩
/-- math/bits.Len32 -/
noncomputable def a343 : AF := ⟨[.tmp 2],
 (.seq
   (.ops [⟨0, some 2, none, .op .quiet (oMv (.val (.int .i64 0))), []⟩])
   (.seq
    (.seq
     (.ops [⟨0, some 3, none, .op .quiet (oMv (.tmp 0)), []⟩,
       ⟨1, some 4, none, .op .quiet (oArith .geq (.tmp 3) (.val (.int .u32 65536))), []⟩])
     (.cond (.tmp 4)
      (.seq
       (.ops [⟨0, some 5, none, .op .quiet (oMv (.tmp 0)), []⟩,
         ⟨1, some 6, none, .op .quiet (oShift .shr (.tmp 5) (.val (.int .u64 16))), []⟩,
         ⟨2, some 0, none, .op .quiet (oMv (.tmp 6)), []⟩])
       (.ops [⟨0, some 2, none, .op .quiet (oMv (.val (.int .i64 16))), []⟩]))
      (.skip)))
    (.seq
     (.seq
      (.ops [⟨0, some 7, none, .op .quiet (oMv (.tmp 0)), []⟩,
        ⟨1, some 8, none, .op .quiet (oArith .geq (.tmp 7) (.val (.int .u32 256))), []⟩])
      (.cond (.tmp 8)
       (.seq
        (.ops [⟨0, some 9, none, .op .quiet (oMv (.tmp 0)), []⟩,
          ⟨1, some 10, none, .op .quiet (oShift .shr (.tmp 9) (.val (.int .u64 8))), []⟩,
          ⟨2, some 0, none, .op .quiet (oMv (.tmp 10)), []⟩])
        (.ops [⟨0, some 11, none, .op .quiet (oMv (.tmp 2)), []⟩,
          ⟨1, some 12, none, .op .quiet (oArith .add (.tmp 11) (.val (.int .i64 8))), []⟩,
          ⟨2, some 2, none, .op .quiet (oMv (.tmp 12)), []⟩]))
       (.skip)))
     (.seq
      (.ops [⟨0, some 13, none, .op .quiet (oMv (.tmp 2)), []⟩,
        ⟨1, some 14, none, .op .quiet (oMv (.tmp 0)), []⟩,
        ⟨2, some 15, none, .op .quiet (oConv .u8 (.tmp 14)), []⟩,
        ⟨3, some 16, none, .op .quiet (oIndexStr (.val (.string ⟨#[0, 1, 2, 2, 3, 3, 3, 3, 4, 4, 4, 4, 4, 4, 4, 4, 5, 5, 5, 5, 5, 5, 5, 5, 5, 5, 5, 5, 5, 5, 5, 5, 6, 6, 6, 6, 6, 6, 6, 6, 6, 6, 6, 6, 6, 6, 6, 6, 6, 6, 6, 6, 6, 6, 6, 6, 6, 6, 6, 6, 6, 6, 6, 6, 7, 7, 7, 7, 7, 7, 7, 7, 7, 7, 7, 7, 7, 7, 7, 7, 7, 7, 7, 7, 7, 7, 7, 7, 7, 7, 7, 7, 7, 7, 7, 7, 7, 7, 7, 7, 7, 7, 7, 7, 7, 7, 7, 7, 7, 7, 7, 7, 7, 7, 7, 7, 7, 7, 7, 7, 7, 7, 7, 7, 7, 7, 7, 7, 8, 8, 8, 8, 8, 8, 8, 8, 8, 8, 8, 8, 8, 8, 8, 8, 8, 8, 8, 8, 8, 8, 8, 8, 8, 8, 8, 8, 8, 8, 8, 8, 8, 8, 8, 8, 8, 8, 8, 8, 8, 8, 8, 8, 8, 8, 8, 8, 8, 8, 8, 8, 8, 8, 8, 8, 8, 8, 8, 8, 8, 8, 8, 8, 8, 8, 8, 8, 8, 8, 8, 8, 8, 8, 8, 8, 8, 8, 8, 8, 8, 8, 8, 8, 8, 8, 8, 8, 8, 8, 8, 8, 8, 8, 8, 8, 8, 8, 8, 8, 8, 8, 8, 8, 8, 8, 8, 8, 8, 8, 8, 8, 8, 8, 8, 8, 8, 8, 8, 8, 8, 8, 8, 8, 8, 8, 8, 8]⟩)) (.tmp 15)), []⟩,
        ⟨4, some 17, none, .op .quiet (oConv .i64 (.tmp 16)), []⟩,
        ⟨5, some 18, none, .op .quiet (oArith .add (.tmp 13) (.tmp 17)), []⟩,
        ⟨6, some 2, none, .op .quiet (oMv (.tmp 18)), []⟩])
      (.ret)))))⟩
/-- math/bits.Len64 -/
noncomputable def a344 : AF := ⟨[.tmp 2],
 (.seq
   (.ops [⟨0, some 2, none, .op .quiet (oMv (.val (.int .i64 0))), []⟩])
   (.seq
    (.seq
     (.ops [⟨0, some 3, none, .op .quiet (oMv (.tmp 0)), []⟩,
       ⟨1, some 4, none, .op .quiet (oArith .geq (.tmp 3) (.val (.int .u64 4294967296))), []⟩])
     (.cond (.tmp 4)
      (.seq
       (.ops [⟨0, some 5, none, .op .quiet (oMv (.tmp 0)), []⟩,
         ⟨1, some 6, none, .op .quiet (oShift .shr (.tmp 5) (.val (.int .u64 32))), []⟩,
         ⟨2, some 0, none, .op .quiet (oMv (.tmp 6)), []⟩])
       (.ops [⟨0, some 2, none, .op .quiet (oMv (.val (.int .i64 32))), []⟩]))
      (.skip)))
    (.seq
     (.seq
      (.ops [⟨0, some 7, none, .op .quiet (oMv (.tmp 0)), []⟩,
        ⟨1, some 8, none, .op .quiet (oArith .geq (.tmp 7) (.val (.int .u64 65536))), []⟩])
      (.cond (.tmp 8)
       (.seq
        (.ops [⟨0, some 9, none, .op .quiet (oMv (.tmp 0)), []⟩,
          ⟨1, some 10, none, .op .quiet (oShift .shr (.tmp 9) (.val (.int .u64 16))), []⟩,
          ⟨2, some 0, none, .op .quiet (oMv (.tmp 10)), []⟩])
        (.ops [⟨0, some 11, none, .op .quiet (oMv (.tmp 2)), []⟩,
          ⟨1, some 12, none, .op .quiet (oArith .add (.tmp 11) (.val (.int .i64 16))), []⟩,
          ⟨2, some 2, none, .op .quiet (oMv (.tmp 12)), []⟩]))
       (.skip)))
     (.seq
      (.seq
       (.ops [⟨0, some 13, none, .op .quiet (oMv (.tmp 0)), []⟩,
         ⟨1, some 14, none, .op .quiet (oArith .geq (.tmp 13) (.val (.int .u64 256))), []⟩])
       (.cond (.tmp 14)
        (.seq
         (.ops [⟨0, some 15, none, .op .quiet (oMv (.tmp 0)), []⟩,
           ⟨1, some 16, none, .op .quiet (oShift .shr (.tmp 15) (.val (.int .u64 8))), []⟩,
           ⟨2, some 0, none, .op .quiet (oMv (.tmp 16)), []⟩])
         (.ops [⟨0, some 17, none, .op .quiet (oMv (.tmp 2)), []⟩,
           ⟨1, some 18, none, .op .quiet (oArith .add (.tmp 17) (.val (.int .i64 8))), []⟩,
           ⟨2, some 2, none, .op .quiet (oMv (.tmp 18)), []⟩]))
        (.skip)))
      (.seq
       (.ops [⟨0, some 19, none, .op .quiet (oMv (.tmp 2)), []⟩,
         ⟨1, some 20, none, .op .quiet (oMv (.tmp 0)), []⟩,
         ⟨2, some 21, none, .op .quiet (oConv .u8 (.tmp 20)), []⟩,
         ⟨3, some 22, none, .op .quiet (oIndexStr (.val (.string ⟨#[0, 1, 2, 2, 3, 3, 3, 3, 4, 4, 4, 4, 4, 4, 4, 4, 5, 5, 5, 5, 5, 5, 5, 5, 5, 5, 5, 5, 5, 5, 5, 5, 6, 6, 6, 6, 6, 6, 6, 6, 6, 6, 6, 6, 6, 6, 6, 6, 6, 6, 6, 6, 6, 6, 6, 6, 6, 6, 6, 6, 6, 6, 6, 6, 7, 7, 7, 7, 7, 7, 7, 7, 7, 7, 7, 7, 7, 7, 7, 7, 7, 7, 7, 7, 7, 7, 7, 7, 7, 7, 7, 7, 7, 7, 7, 7, 7, 7, 7, 7, 7, 7, 7, 7, 7, 7, 7, 7, 7, 7, 7, 7, 7, 7, 7, 7, 7, 7, 7, 7, 7, 7, 7, 7, 7, 7, 7, 7, 8, 8, 8, 8, 8, 8, 8, 8, 8, 8, 8, 8, 8, 8, 8, 8, 8, 8, 8, 8, 8, 8, 8, 8, 8, 8, 8, 8, 8, 8, 8, 8, 8, 8, 8, 8, 8, 8, 8, 8, 8, 8, 8, 8, 8, 8, 8, 8, 8, 8, 8, 8, 8, 8, 8, 8, 8, 8, 8, 8, 8, 8, 8, 8, 8, 8, 8, 8, 8, 8, 8, 8, 8, 8, 8, 8, 8, 8, 8, 8, 8, 8, 8, 8, 8, 8, 8, 8, 8, 8, 8, 8, 8, 8, 8, 8, 8, 8, 8, 8, 8, 8, 8, 8, 8, 8, 8, 8, 8, 8, 8, 8, 8, 8, 8, 8, 8, 8, 8, 8, 8, 8, 8, 8, 8, 8, 8, 8]⟩)) (.tmp 21)), []⟩,
         ⟨4, some 23, none, .op .quiet (oConv .i64 (.tmp 22)), []⟩,
         ⟨5, some 24, none, .op .quiet (oArith .add (.tmp 19) (.tmp 23)), []⟩,
         ⟨6, some 2, none, .op .quiet (oMv (.tmp 24)), []⟩])
       (.ret))))))⟩
/-- (tangram/comps.parents).known -/
noncomputable def a345 : AF := ⟨[.tmp 4],
 (.seq
   (.ops [⟨0, some 4, none, .op .quiet (oMv (.val (.bool false))), []⟩])
   (.seq
    (.ops [⟨0, some 5, none, .op .quiet (oMv (.tmp 1)), []⟩,
      ⟨1, some 6, none, .op .quiet (oArith .geq (.tmp 5) (.val (.int .i64 0))), []⟩,
      ⟨2, some 7, none, .op .quiet (oMv (.tmp 6)), []⟩,
      ⟨3, some 8, some (7, true), .op .quiet (oMv (.tmp 1)), []⟩,
      ⟨4, some 9, some (7, true), .op .quiet (oMv (.tmp 0)), []⟩,
      ⟨5, some 10, some (7, true), .op .reads (oLen .slice (.tmp 9)), []⟩,
      ⟨6, some 11, some (7, true), .op .quiet (oArith .lss (.tmp 8) (.tmp 10)), []⟩,
      ⟨7, some 12, none, .op .quiet (oPick (.tmp 7) (.tmp 11) (.val (.bool false))), []⟩,
      ⟨8, some 4, none, .op .quiet (oMv (.tmp 12)), []⟩])
    (.ret)))⟩
/-- slices.pdqsortCmpFunc[int] -/
noncomputable def a350 : AF := ⟨[],
 (.seq
   (.ops [⟨0, some 10, none, .op .quiet (oMv (.val (.bool true))), []⟩])
   (.seq
    (.ops [⟨0, some 11, none, .op .quiet (oMv (.val (.bool true))), []⟩])
    (.block 0
     (.loop
      (.block 1
       (.seq
        (.ops [⟨0, some 21, none, .op .quiet (oMv (.tmp 2)), []⟩,
          ⟨1, some 22, none, .op .quiet (oMv (.tmp 1)), []⟩,
          ⟨2, some 23, none, .op .quiet (oArith .sub (.tmp 21) (.tmp 22)), []⟩,
          ⟨3, some 12, none, .op .quiet (oMv (.tmp 23)), []⟩])
        (.seq
         (.seq
          (.ops [⟨0, some 24, none, .op .quiet (oMv (.tmp 12)), []⟩,
            ⟨1, some 25, none, .op .quiet (oArith .leq (.tmp 24) (.val (.int .i64 12))), []⟩])
          (.cond (.tmp 25)
           (.seq
            (.ops [⟨0, some 26, none, .op .quiet (oMv (.tmp 0)), []⟩,
              ⟨1, some 27, none, .op .quiet (oMv (.tmp 1)), []⟩,
              ⟨2, some 28, none, .op .quiet (oMv (.tmp 2)), []⟩,
              ⟨3, some 29, none, .op .quiet (oMv (.tmp 4)), []⟩,
              ⟨4, some 30, none, .callF 366 [(.tmp 26), (.tmp 27), (.tmp 28), (.tmp 29)], []⟩])
            (.ret))
           (.skip)))
         (.seq
          (.seq
           (.ops [⟨0, some 31, none, .op .quiet (oMv (.tmp 3)), []⟩,
             ⟨1, some 32, none, .op .quiet (oArith .eql (.tmp 31) (.val (.int .i64 0))), []⟩])
           (.cond (.tmp 32)
            (.seq
             (.ops [⟨0, some 33, none, .op .quiet (oMv (.tmp 0)), []⟩,
               ⟨1, some 34, none, .op .quiet (oMv (.tmp 1)), []⟩,
               ⟨2, some 35, none, .op .quiet (oMv (.tmp 2)), []⟩,
               ⟨3, some 36, none, .op .quiet (oMv (.tmp 4)), []⟩,
               ⟨4, some 37, none, .callF 367 [(.tmp 33), (.tmp 34), (.tmp 35), (.tmp 36)], []⟩])
             (.ret))
            (.skip)))
          (.seq
           (.seq
            (.ops [⟨0, some 38, none, .op .quiet (oMv (.tmp 10)), []⟩,
              ⟨1, some 39, none, .op .quiet (oNot (.tmp 38)), []⟩])
            (.cond (.tmp 39)
             (.seq
              (.ops [⟨0, some 40, none, .op .quiet (oMv (.tmp 0)), []⟩,
                ⟨1, some 41, none, .op .quiet (oMv (.tmp 1)), []⟩,
                ⟨2, some 42, none, .op .quiet (oMv (.tmp 2)), []⟩,
                ⟨3, some 43, none, .op .quiet (oMv (.tmp 4)), []⟩,
                ⟨4, some 44, none, .callF 368 [(.tmp 40), (.tmp 41), (.tmp 42), (.tmp 43)], []⟩])
              (.ops [⟨0, some 45, none, .op .quiet (oMv (.tmp 3)), []⟩,
                ⟨1, some 46, none, .op .quiet (oArith .sub (.tmp 45) (.val (.int .i64 1))), []⟩,
                ⟨2, some 3, none, .op .quiet (oMv (.tmp 46)), []⟩]))
             (.skip)))
           (.seq
            (.ops [⟨0, some 48, none, .op .quiet (oMv (.tmp 0)), []⟩,
              ⟨1, some 49, none, .op .quiet (oMv (.tmp 1)), []⟩,
              ⟨2, some 50, none, .op .quiet (oMv (.tmp 2)), []⟩,
              ⟨3, some 51, none, .op .quiet (oMv (.tmp 4)), []⟩,
              ⟨4, some 52, none, .callF 369 [(.tmp 48), (.tmp 49), (.tmp 50), (.tmp 51)], []⟩,
              ⟨5, some 47, none, .op .quiet (oMv (.tmp 52)), []⟩,
              ⟨6, some 53, none, .op .quiet (oExtract 0 (.tmp 47)), []⟩,
              ⟨7, some 54, none, .op .quiet (oExtract 1 (.tmp 47)), []⟩,
              ⟨8, some 13, none, .op .quiet (oMv (.tmp 53)), []⟩,
              ⟨9, some 14, none, .op .quiet (oMv (.tmp 54)), []⟩])
            (.seq
             (.seq
              (.ops [⟨0, some 55, none, .op .quiet (oMv (.tmp 14)), []⟩,
                ⟨1, some 56, none, .op .quiet (oArith .eql (.tmp 55) (.val (.int .i64 2))), []⟩])
              (.cond (.tmp 56)
               (.seq
                (.ops [⟨0, some 57, none, .op .quiet (oMv (.tmp 0)), []⟩,
                  ⟨1, some 58, none, .op .quiet (oMv (.tmp 1)), []⟩,
                  ⟨2, some 59, none, .op .quiet (oMv (.tmp 2)), []⟩,
                  ⟨3, some 60, none, .op .quiet (oMv (.tmp 4)), []⟩,
                  ⟨4, some 61, none, .callF 370 [(.tmp 57), (.tmp 58), (.tmp 59), (.tmp 60)], []⟩])
                (.seq
                 (.ops [⟨0, some 62, none, .op .quiet (oMv (.tmp 2)), []⟩,
                   ⟨1, some 63, none, .op .quiet (oArith .sub (.tmp 62) (.val (.int .i64 1))), []⟩,
                   ⟨2, some 64, none, .op .quiet (oMv (.tmp 13)), []⟩,
                   ⟨3, some 65, none, .op .quiet (oMv (.tmp 1)), []⟩,
                   ⟨4, some 66, none, .op .quiet (oArith .sub (.tmp 64) (.tmp 65)), []⟩,
                   ⟨5, some 67, none, .op .quiet (oArith .sub (.tmp 63) (.tmp 66)), []⟩,
                   ⟨6, some 13, none, .op .quiet (oMv (.tmp 67)), []⟩])
                 (.ops [⟨0, some 14, none, .op .quiet (oMv (.val (.int .i64 1))), []⟩])))
               (.skip)))
             (.seq
              (.seq
               (.ops [⟨0, some 68, none, .op .quiet (oMv (.tmp 10)), []⟩,
                 ⟨1, some 69, none, .op .quiet (oMv (.tmp 68)), []⟩,
                 ⟨2, some 70, some (69, true), .op .quiet (oMv (.tmp 11)), []⟩,
                 ⟨3, some 71, none, .op .quiet (oPick (.tmp 69) (.tmp 70) (.val (.bool false))), []⟩,
                 ⟨4, some 72, none, .op .quiet (oMv (.tmp 71)), []⟩,
                 ⟨5, some 73, some (72, true), .op .quiet (oMv (.tmp 14)), []⟩,
                 ⟨6, some 74, some (72, true), .op .quiet (oArith .eql (.tmp 73) (.val (.int .i64 1))), []⟩,
                 ⟨7, some 75, none, .op .quiet (oPick (.tmp 72) (.tmp 74) (.val (.bool false))), []⟩])
               (.cond (.tmp 75)
                (.seq
                 (.ops [⟨0, some 76, none, .op .quiet (oMv (.tmp 0)), []⟩,
                   ⟨1, some 77, none, .op .quiet (oMv (.tmp 1)), []⟩,
                   ⟨2, some 78, none, .op .quiet (oMv (.tmp 2)), []⟩,
                   ⟨3, some 79, none, .op .quiet (oMv (.tmp 4)), []⟩,
                   ⟨4, some 80, none, .callF 371 [(.tmp 76), (.tmp 77), (.tmp 78), (.tmp 79)], []⟩])
                 (.cond (.tmp 80)
                  (.ret)
                  (.skip)))
                (.skip)))
              (.seq
               (.seq
                (.drawn [⟨0, some 81, none, .op .quiet (oMv (.tmp 1)), []⟩,
                  ⟨1, some 82, none, .op .quiet (oArith .gtr (.tmp 81) (.val (.int .i64 0))), []⟩,
                  ⟨2, some 83, none, .op .quiet (oMv (.tmp 82)), []⟩,
                  ⟨3, some 84, some (83, true), .op .quiet (oMv (.tmp 4)), []⟩,
                  ⟨4, some 85, some (83, true), .op .quiet (oMv (.tmp 0)), []⟩,
                  ⟨5, some 86, some (83, true), .op .quiet (oMv (.tmp 1)), []⟩,
                  ⟨6, some 87, some (83, true), .op .quiet (oArith .sub (.tmp 86) (.val (.int .i64 1))), []⟩,
                  ⟨7, some 88, some (83, true), .op .quiet (oIdxS 1 (.tmp 85) (.tmp 87)), []⟩,
                  ⟨8, some 89, some (83, true), .op .reads (oLoad (.tmp 88)), []⟩,
                  ⟨9, some 90, some (83, true), .op .quiet (oMv (.tmp 0)), []⟩,
                  ⟨10, some 91, some (83, true), .op .quiet (oMv (.tmp 13)), []⟩,
                  ⟨11, some 92, some (83, true), .op .quiet (oIdxS 1 (.tmp 90) (.tmp 91)), []⟩,
                  ⟨12, some 93, some (83, true), .op .reads (oLoad (.tmp 92)), []⟩,
                  ⟨13, some 94, some (83, true), .call (.tmp 84) [(.tmp 89), (.tmp 93)], []⟩,
                  ⟨14, some 95, some (83, true), .op .quiet (oArith .lss (.tmp 94) (.val (.int .i64 0))), []⟩,
                  ⟨15, some 96, some (83, true), .op .quiet (oNot (.tmp 95)), []⟩,
                  ⟨16, some 97, none, .op .quiet (oPick (.tmp 83) (.tmp 96) (.val (.bool false))), []⟩])
                (.cond (.tmp 97)
                 (.seq
                  (.ops [⟨0, some 98, none, .op .quiet (oMv (.tmp 0)), []⟩,
                    ⟨1, some 99, none, .op .quiet (oMv (.tmp 1)), []⟩,
                    ⟨2, some 100, none, .op .quiet (oMv (.tmp 2)), []⟩,
                    ⟨3, some 101, none, .op .quiet (oMv (.tmp 13)), []⟩,
                    ⟨4, some 102, none, .op .quiet (oMv (.tmp 4)), []⟩,
                    ⟨5, some 103, none, .callF 372 [(.tmp 98), (.tmp 99), (.tmp 100), (.tmp 101), (.tmp 102)], []⟩,
                    ⟨6, some 15, none, .op .quiet (oMv (.tmp 103)), []⟩])
                  (.seq
                   (.ops [⟨0, some 104, none, .op .quiet (oMv (.tmp 15)), []⟩,
                     ⟨1, some 1, none, .op .quiet (oMv (.tmp 104)), []⟩])
                   (.exit 1)))
                 (.skip)))
               (.seq
                (.ops [⟨0, some 106, none, .op .quiet (oMv (.tmp 0)), []⟩,
                  ⟨1, some 107, none, .op .quiet (oMv (.tmp 1)), []⟩,
                  ⟨2, some 108, none, .op .quiet (oMv (.tmp 2)), []⟩,
                  ⟨3, some 109, none, .op .quiet (oMv (.tmp 13)), []⟩,
                  ⟨4, some 110, none, .op .quiet (oMv (.tmp 4)), []⟩,
                  ⟨5, some 111, none, .callF 373 [(.tmp 106), (.tmp 107), (.tmp 108), (.tmp 109), (.tmp 110)], []⟩,
                  ⟨6, some 105, none, .op .quiet (oMv (.tmp 111)), []⟩,
                  ⟨7, some 112, none, .op .quiet (oExtract 0 (.tmp 105)), []⟩,
                  ⟨8, some 113, none, .op .quiet (oExtract 1 (.tmp 105)), []⟩,
                  ⟨9, some 16, none, .op .quiet (oMv (.tmp 112)), []⟩,
                  ⟨10, some 17, none, .op .quiet (oMv (.tmp 113)), []⟩])
                (.seq
                 (.ops [⟨0, some 114, none, .op .quiet (oMv (.tmp 17)), []⟩,
                   ⟨1, some 11, none, .op .quiet (oMv (.tmp 114)), []⟩])
                 (.seq
                  (.ops [⟨0, some 115, none, .op .quiet (oMv (.tmp 16)), []⟩,
                    ⟨1, some 116, none, .op .quiet (oMv (.tmp 1)), []⟩,
                    ⟨2, some 117, none, .op .quiet (oArith .sub (.tmp 115) (.tmp 116)), []⟩,
                    ⟨3, some 118, none, .op .quiet (oMv (.tmp 2)), []⟩,
                    ⟨4, some 119, none, .op .quiet (oMv (.tmp 16)), []⟩,
                    ⟨5, some 120, none, .op .quiet (oArith .sub (.tmp 118) (.tmp 119)), []⟩,
                    ⟨6, some 18, none, .op .quiet (oMv (.tmp 117)), []⟩,
                    ⟨7, some 19, none, .op .quiet (oMv (.tmp 120)), []⟩])
                  (.seq
                   (.ops [⟨0, some 121, none, .op .quiet (oMv (.tmp 12)), []⟩,
                     ⟨1, some 122, none, .op .quiet (oArith .quo (.tmp 121) (.val (.int .i64 8))), []⟩,
                     ⟨2, some 20, none, .op .quiet (oMv (.tmp 122)), []⟩])
                   (.seq
                    (.ops [⟨0, some 123, none, .op .quiet (oMv (.tmp 18)), []⟩,
                      ⟨1, some 124, none, .op .quiet (oMv (.tmp 19)), []⟩,
                      ⟨2, some 125, none, .op .quiet (oArith .lss (.tmp 123) (.tmp 124)), []⟩])
                    (.cond (.tmp 125)
                     (.seq
                      (.ops [⟨0, some 126, none, .op .quiet (oMv (.tmp 18)), []⟩,
                        ⟨1, some 127, none, .op .quiet (oMv (.tmp 20)), []⟩,
                        ⟨2, some 128, none, .op .quiet (oArith .geq (.tmp 126) (.tmp 127)), []⟩,
                        ⟨3, some 10, none, .op .quiet (oMv (.tmp 128)), []⟩])
                      (.seq
                       (.ops [⟨0, some 129, none, .op .quiet (oMv (.tmp 0)), []⟩,
                         ⟨1, some 130, none, .op .quiet (oMv (.tmp 1)), []⟩,
                         ⟨2, some 131, none, .op .quiet (oMv (.tmp 16)), []⟩,
                         ⟨3, some 132, none, .op .quiet (oMv (.tmp 3)), []⟩,
                         ⟨4, some 133, none, .op .quiet (oMv (.tmp 4)), []⟩,
                         ⟨5, some 134, none, .callF 350 [(.tmp 129), (.tmp 130), (.tmp 131), (.tmp 132), (.tmp 133)], []⟩])
                       (.ops [⟨0, some 135, none, .op .quiet (oMv (.tmp 16)), []⟩,
                         ⟨1, some 136, none, .op .quiet (oArith .add (.tmp 135) (.val (.int .i64 1))), []⟩,
                         ⟨2, some 1, none, .op .quiet (oMv (.tmp 136)), []⟩])))
                     (.seq
                      (.ops [⟨0, some 137, none, .op .quiet (oMv (.tmp 19)), []⟩,
                        ⟨1, some 138, none, .op .quiet (oMv (.tmp 20)), []⟩,
                        ⟨2, some 139, none, .op .quiet (oArith .geq (.tmp 137) (.tmp 138)), []⟩,
                        ⟨3, some 10, none, .op .quiet (oMv (.tmp 139)), []⟩])
                      (.seq
                       (.ops [⟨0, some 140, none, .op .quiet (oMv (.tmp 0)), []⟩,
                         ⟨1, some 141, none, .op .quiet (oMv (.tmp 16)), []⟩,
                         ⟨2, some 142, none, .op .quiet (oArith .add (.tmp 141) (.val (.int .i64 1))), []⟩,
                         ⟨3, some 143, none, .op .quiet (oMv (.tmp 2)), []⟩,
                         ⟨4, some 144, none, .op .quiet (oMv (.tmp 3)), []⟩,
                         ⟨5, some 145, none, .op .quiet (oMv (.tmp 4)), []⟩,
                         ⟨6, some 146, none, .callF 350 [(.tmp 140), (.tmp 142), (.tmp 143), (.tmp 144), (.tmp 145)], []⟩])
                       (.ops [⟨0, some 147, none, .op .quiet (oMv (.tmp 16)), []⟩,
                         ⟨1, some 2, none, .op .quiet (oMv (.tmp 147)), []⟩]))))))))))))))))))))))⟩
/-- slices.insertionSortOrdered[int] -/
noncomputable def a351 : AF := ⟨[],
 (.seq
   (.ops [⟨0, some 8, none, .op .quiet (oMv (.tmp 1)), []⟩,
     ⟨1, some 9, none, .op .quiet (oArith .add (.tmp 8) (.val (.int .i64 1))), []⟩,
     ⟨2, some 6, none, .op .quiet (oMv (.tmp 9)), []⟩])
   (.block 0
    (.loop
     (.seq
      (.seq
       (.ops [⟨0, some 10, none, .op .quiet (oMv (.tmp 6)), []⟩,
         ⟨1, some 11, none, .op .quiet (oMv (.tmp 2)), []⟩,
         ⟨2, some 12, none, .op .quiet (oArith .lss (.tmp 10) (.tmp 11)), []⟩])
       (.cond (.tmp 12)
        (.skip)
        (.exit 0)))
      (.seq
       (.block 1
        (.seq
         (.ops [⟨0, some 15, none, .op .quiet (oMv (.tmp 6)), []⟩,
           ⟨1, some 7, none, .op .quiet (oMv (.tmp 15)), []⟩])
         (.block 2
          (.loop
           (.seq
            (.seq
             (.drawn [⟨0, some 16, none, .op .quiet (oMv (.tmp 7)), []⟩,
               ⟨1, some 17, none, .op .quiet (oMv (.tmp 1)), []⟩,
               ⟨2, some 18, none, .op .quiet (oArith .gtr (.tmp 16) (.tmp 17)), []⟩,
               ⟨3, some 19, none, .op .quiet (oMv (.tmp 18)), []⟩,
               ⟨4, some 20, some (19, true), .op .quiet (oMv (.tmp 0)), []⟩,
               ⟨5, some 21, some (19, true), .op .quiet (oMv (.tmp 7)), []⟩,
               ⟨6, some 22, some (19, true), .op .quiet (oIdxS 1 (.tmp 20) (.tmp 21)), []⟩,
               ⟨7, some 23, some (19, true), .op .reads (oLoad (.tmp 22)), []⟩,
               ⟨8, some 24, some (19, true), .op .quiet (oMv (.tmp 0)), []⟩,
               ⟨9, some 25, some (19, true), .op .quiet (oMv (.tmp 7)), []⟩,
               ⟨10, some 26, some (19, true), .op .quiet (oArith .sub (.tmp 25) (.val (.int .i64 1))), []⟩,
               ⟨11, some 27, some (19, true), .op .quiet (oIdxS 1 (.tmp 24) (.tmp 26)), []⟩,
               ⟨12, some 28, some (19, true), .op .reads (oLoad (.tmp 27)), []⟩,
               ⟨13, some 29, some (19, true), .callF 357 [(.tmp 23), (.tmp 28)], []⟩,
               ⟨14, some 30, none, .op .quiet (oPick (.tmp 19) (.tmp 29) (.val (.bool false))), []⟩])
             (.cond (.tmp 30)
              (.skip)
              (.exit 2)))
            (.seq
             (.block 3
              (.drawn [⟨0, some 33, none, .op .quiet (oMv (.tmp 0)), []⟩,
                ⟨1, some 34, none, .op .quiet (oMv (.tmp 7)), []⟩,
                ⟨2, some 35, none, .op .quiet (oMv (.tmp 0)), []⟩,
                ⟨3, some 36, none, .op .quiet (oMv (.tmp 7)), []⟩,
                ⟨4, some 37, none, .op .quiet (oArith .sub (.tmp 36) (.val (.int .i64 1))), []⟩,
                ⟨5, some 38, none, .op .quiet (oMv (.tmp 0)), []⟩,
                ⟨6, some 39, none, .op .quiet (oMv (.tmp 7)), []⟩,
                ⟨7, some 40, none, .op .quiet (oArith .sub (.tmp 39) (.val (.int .i64 1))), []⟩,
                ⟨8, some 41, none, .op .quiet (oIdxS 1 (.tmp 38) (.tmp 40)), []⟩,
                ⟨9, some 42, none, .op .reads (oLoad (.tmp 41)), []⟩,
                ⟨10, some 43, none, .op .quiet (oMv (.tmp 0)), []⟩,
                ⟨11, some 44, none, .op .quiet (oMv (.tmp 7)), []⟩,
                ⟨12, some 45, none, .op .quiet (oIdxS 1 (.tmp 43) (.tmp 44)), []⟩,
                ⟨13, some 46, none, .op .reads (oLoad (.tmp 45)), []⟩,
                ⟨14, some 47, none, .op .quiet (oIdxS 1 (.tmp 33) (.tmp 34)), []⟩,
                ⟨15, none, none, .op .hard (oStore 1 (.tmp 47) (.tmp 42)), []⟩,
                ⟨16, some 48, none, .op .quiet (oIdxS 1 (.tmp 35) (.tmp 37)), []⟩,
                ⟨17, none, none, .op .hard (oStore 1 (.tmp 48) (.tmp 46)), []⟩]))
             (.ops [⟨0, some 31, none, .op .quiet (oMv (.tmp 7)), []⟩,
               ⟨1, some 32, none, .op .quiet (oArith .sub (.tmp 31) (.val (.int .i64 1))), []⟩,
               ⟨2, some 7, none, .op .quiet (oMv (.tmp 32)), []⟩])))))))
       (.ops [⟨0, some 13, none, .op .quiet (oMv (.tmp 6)), []⟩,
         ⟨1, some 14, none, .op .quiet (oArith .add (.tmp 13) (.val (.int .i64 1))), []⟩,
         ⟨2, some 6, none, .op .quiet (oMv (.tmp 14)), []⟩]))))))⟩
/-- slices.heapSortOrdered[int] -/
noncomputable def a352 : AF := ⟨[],
 (.seq
   (.ops [⟨0, some 11, none, .op .quiet (oMv (.tmp 1)), []⟩,
     ⟨1, some 6, none, .op .quiet (oMv (.tmp 11)), []⟩])
   (.seq
    (.ops [⟨0, some 7, none, .op .quiet (oMv (.val (.int .i64 0))), []⟩])
    (.seq
     (.ops [⟨0, some 12, none, .op .quiet (oMv (.tmp 2)), []⟩,
       ⟨1, some 13, none, .op .quiet (oMv (.tmp 1)), []⟩,
       ⟨2, some 14, none, .op .quiet (oArith .sub (.tmp 12) (.tmp 13)), []⟩,
       ⟨3, some 8, none, .op .quiet (oMv (.tmp 14)), []⟩])
     (.seq
      (.seq
       (.ops [⟨0, some 15, none, .op .quiet (oMv (.tmp 8)), []⟩,
         ⟨1, some 16, none, .op .quiet (oArith .sub (.tmp 15) (.val (.int .i64 1))), []⟩,
         ⟨2, some 17, none, .op .quiet (oArith .quo (.tmp 16) (.val (.int .i64 2))), []⟩,
         ⟨3, some 9, none, .op .quiet (oMv (.tmp 17)), []⟩])
       (.block 0
        (.loop
         (.seq
          (.seq
           (.ops [⟨0, some 18, none, .op .quiet (oMv (.tmp 9)), []⟩,
             ⟨1, some 19, none, .op .quiet (oArith .geq (.tmp 18) (.val (.int .i64 0))), []⟩])
           (.cond (.tmp 19)
            (.skip)
            (.exit 0)))
          (.seq
           (.block 1
            (.ops [⟨0, some 22, none, .op .quiet (oMv (.tmp 0)), []⟩,
              ⟨1, some 23, none, .op .quiet (oMv (.tmp 9)), []⟩,
              ⟨2, some 24, none, .op .quiet (oMv (.tmp 8)), []⟩,
              ⟨3, some 25, none, .op .quiet (oMv (.tmp 6)), []⟩,
              ⟨4, some 26, none, .callF 374 [(.tmp 22), (.tmp 23), (.tmp 24), (.tmp 25)], []⟩]))
           (.ops [⟨0, some 20, none, .op .quiet (oMv (.tmp 9)), []⟩,
             ⟨1, some 21, none, .op .quiet (oArith .sub (.tmp 20) (.val (.int .i64 1))), []⟩,
             ⟨2, some 9, none, .op .quiet (oMv (.tmp 21)), []⟩]))))))
      (.seq
       (.ops [⟨0, some 27, none, .op .quiet (oMv (.tmp 8)), []⟩,
         ⟨1, some 28, none, .op .quiet (oArith .sub (.tmp 27) (.val (.int .i64 1))), []⟩,
         ⟨2, some 10, none, .op .quiet (oMv (.tmp 28)), []⟩])
       (.block 2
        (.loop
         (.seq
          (.seq
           (.ops [⟨0, some 29, none, .op .quiet (oMv (.tmp 10)), []⟩,
             ⟨1, some 30, none, .op .quiet (oArith .geq (.tmp 29) (.val (.int .i64 0))), []⟩])
           (.cond (.tmp 30)
            (.skip)
            (.exit 2)))
          (.seq
           (.block 3
            (.seq
             (.drawn [⟨0, some 33, none, .op .quiet (oMv (.tmp 0)), []⟩,
               ⟨1, some 34, none, .op .quiet (oMv (.tmp 6)), []⟩,
               ⟨2, some 35, none, .op .quiet (oMv (.tmp 0)), []⟩,
               ⟨3, some 36, none, .op .quiet (oMv (.tmp 6)), []⟩,
               ⟨4, some 37, none, .op .quiet (oMv (.tmp 10)), []⟩,
               ⟨5, some 38, none, .op .quiet (oArith .add (.tmp 36) (.tmp 37)), []⟩,
               ⟨6, some 39, none, .op .quiet (oMv (.tmp 0)), []⟩,
               ⟨7, some 40, none, .op .quiet (oMv (.tmp 6)), []⟩,
               ⟨8, some 41, none, .op .quiet (oMv (.tmp 10)), []⟩,
               ⟨9, some 42, none, .op .quiet (oArith .add (.tmp 40) (.tmp 41)), []⟩,
               ⟨10, some 43, none, .op .quiet (oIdxS 1 (.tmp 39) (.tmp 42)), []⟩,
               ⟨11, some 44, none, .op .reads (oLoad (.tmp 43)), []⟩,
               ⟨12, some 45, none, .op .quiet (oMv (.tmp 0)), []⟩,
               ⟨13, some 46, none, .op .quiet (oMv (.tmp 6)), []⟩,
               ⟨14, some 47, none, .op .quiet (oIdxS 1 (.tmp 45) (.tmp 46)), []⟩,
               ⟨15, some 48, none, .op .reads (oLoad (.tmp 47)), []⟩,
               ⟨16, some 49, none, .op .quiet (oIdxS 1 (.tmp 33) (.tmp 34)), []⟩,
               ⟨17, none, none, .op .hard (oStore 1 (.tmp 49) (.tmp 44)), []⟩,
               ⟨18, some 50, none, .op .quiet (oIdxS 1 (.tmp 35) (.tmp 38)), []⟩,
               ⟨19, none, none, .op .hard (oStore 1 (.tmp 50) (.tmp 48)), []⟩])
             (.ops [⟨0, some 51, none, .op .quiet (oMv (.tmp 0)), []⟩,
               ⟨1, some 52, none, .op .quiet (oMv (.tmp 7)), []⟩,
               ⟨2, some 53, none, .op .quiet (oMv (.tmp 10)), []⟩,
               ⟨3, some 54, none, .op .quiet (oMv (.tmp 6)), []⟩,
               ⟨4, some 55, none, .callF 374 [(.tmp 51), (.tmp 52), (.tmp 53), (.tmp 54)], []⟩])))
           (.ops [⟨0, some 31, none, .op .quiet (oMv (.tmp 10)), []⟩,
             ⟨1, some 32, none, .op .quiet (oArith .sub (.tmp 31) (.val (.int .i64 1))), []⟩,
             ⟨2, some 10, none, .op .quiet (oMv (.tmp 32)), []⟩]))))))))))⟩
/-- slices.breakPatternsOrdered[int] -/
noncomputable def a353 : AF := ⟨[],
 (.seq
   (.ops [⟨0, some 11, none, .op .quiet (oMv (.tmp 2)), []⟩,
     ⟨1, some 12, none, .op .quiet (oMv (.tmp 1)), []⟩,
     ⟨2, some 13, none, .op .quiet (oArith .sub (.tmp 11) (.tmp 12)), []⟩,
     ⟨3, some 6, none, .op .quiet (oMv (.tmp 13)), []⟩])
   (.seq
    (.ops [⟨0, some 14, none, .op .quiet (oMv (.tmp 6)), []⟩,
      ⟨1, some 15, none, .op .quiet (oArith .geq (.tmp 14) (.val (.int .i64 8))), []⟩])
    (.cond (.tmp 15)
     (.seq
      (.ops [⟨0, some 16, none, .op .quiet (oMv (.tmp 6)), []⟩,
        ⟨1, some 17, none, .op .quiet (oConv .u64 (.tmp 16)), []⟩,
        ⟨2, some 7, none, .op .quiet (oAlloc [(.int .u64 0)]), []⟩,
        ⟨3, none, none, .op .hard (oStore 1 (.tmp 7) (.tmp 17)), []⟩])
      (.seq
       (.ops [⟨0, some 18, none, .op .quiet (oMv (.tmp 6)), []⟩,
         ⟨1, some 19, none, .callF 361 [(.tmp 18)], []⟩,
         ⟨2, some 8, none, .op .quiet (oMv (.tmp 19)), []⟩])
       (.seq
        (.ops [⟨0, some 20, none, .op .quiet (oMv (.tmp 1)), []⟩,
          ⟨1, some 21, none, .op .quiet (oMv (.tmp 6)), []⟩,
          ⟨2, some 22, none, .op .quiet (oArith .quo (.tmp 21) (.val (.int .i64 4))), []⟩,
          ⟨3, some 23, none, .op .quiet (oArith .mul (.tmp 22) (.val (.int .i64 2))), []⟩,
          ⟨4, some 24, none, .op .quiet (oArith .add (.tmp 20) (.tmp 23)), []⟩,
          ⟨5, some 25, none, .op .quiet (oArith .sub (.tmp 24) (.val (.int .i64 1))), []⟩,
          ⟨6, some 9, none, .op .quiet (oMv (.tmp 25)), []⟩])
        (.block 0
         (.loop
          (.seq
           (.seq
            (.ops [⟨0, some 26, none, .op .quiet (oMv (.tmp 9)), []⟩,
              ⟨1, some 27, none, .op .quiet (oMv (.tmp 1)), []⟩,
              ⟨2, some 28, none, .op .quiet (oMv (.tmp 6)), []⟩,
              ⟨3, some 29, none, .op .quiet (oArith .quo (.tmp 28) (.val (.int .i64 4))), []⟩,
              ⟨4, some 30, none, .op .quiet (oArith .mul (.tmp 29) (.val (.int .i64 2))), []⟩,
              ⟨5, some 31, none, .op .quiet (oArith .add (.tmp 27) (.tmp 30)), []⟩,
              ⟨6, some 32, none, .op .quiet (oArith .add (.tmp 31) (.val (.int .i64 1))), []⟩,
              ⟨7, some 33, none, .op .quiet (oArith .leq (.tmp 26) (.tmp 32)), []⟩])
            (.cond (.tmp 33)
             (.skip)
             (.exit 0)))
           (.seq
            (.block 1
             (.seq
              (.ops [⟨0, some 36, none, .callF 362 [(.tmp 7)], []⟩,
                ⟨1, some 37, none, .op .quiet (oMv (.tmp 8)), []⟩,
                ⟨2, some 38, none, .op .quiet (oArith .sub (.tmp 37) (.val (.int .u64 1))), []⟩,
                ⟨3, some 39, none, .op .quiet (oArith .and (.tmp 36) (.tmp 38)), []⟩,
                ⟨4, some 40, none, .op .quiet (oConv .i64 (.tmp 39)), []⟩,
                ⟨5, some 10, none, .op .quiet (oMv (.tmp 40)), []⟩])
              (.seq
               (.seq
                (.ops [⟨0, some 41, none, .op .quiet (oMv (.tmp 10)), []⟩,
                  ⟨1, some 42, none, .op .quiet (oMv (.tmp 6)), []⟩,
                  ⟨2, some 43, none, .op .quiet (oArith .geq (.tmp 41) (.tmp 42)), []⟩])
                (.cond (.tmp 43)
                 (.ops [⟨0, some 44, none, .op .quiet (oMv (.tmp 10)), []⟩,
                   ⟨1, some 45, none, .op .quiet (oMv (.tmp 6)), []⟩,
                   ⟨2, some 46, none, .op .quiet (oArith .sub (.tmp 44) (.tmp 45)), []⟩,
                   ⟨3, some 10, none, .op .quiet (oMv (.tmp 46)), []⟩])
                 (.skip)))
               (.drawn [⟨0, some 47, none, .op .quiet (oMv (.tmp 0)), []⟩,
                 ⟨1, some 48, none, .op .quiet (oMv (.tmp 9)), []⟩,
                 ⟨2, some 49, none, .op .quiet (oMv (.tmp 0)), []⟩,
                 ⟨3, some 50, none, .op .quiet (oMv (.tmp 1)), []⟩,
                 ⟨4, some 51, none, .op .quiet (oMv (.tmp 10)), []⟩,
                 ⟨5, some 52, none, .op .quiet (oArith .add (.tmp 50) (.tmp 51)), []⟩,
                 ⟨6, some 53, none, .op .quiet (oMv (.tmp 0)), []⟩,
                 ⟨7, some 54, none, .op .quiet (oMv (.tmp 1)), []⟩,
                 ⟨8, some 55, none, .op .quiet (oMv (.tmp 10)), []⟩,
                 ⟨9, some 56, none, .op .quiet (oArith .add (.tmp 54) (.tmp 55)), []⟩,
                 ⟨10, some 57, none, .op .quiet (oIdxS 1 (.tmp 53) (.tmp 56)), []⟩,
                 ⟨11, some 58, none, .op .reads (oLoad (.tmp 57)), []⟩,
                 ⟨12, some 59, none, .op .quiet (oMv (.tmp 0)), []⟩,
                 ⟨13, some 60, none, .op .quiet (oMv (.tmp 9)), []⟩,
                 ⟨14, some 61, none, .op .quiet (oIdxS 1 (.tmp 59) (.tmp 60)), []⟩,
                 ⟨15, some 62, none, .op .reads (oLoad (.tmp 61)), []⟩,
                 ⟨16, some 63, none, .op .quiet (oIdxS 1 (.tmp 47) (.tmp 48)), []⟩,
                 ⟨17, none, none, .op .hard (oStore 1 (.tmp 63) (.tmp 58)), []⟩,
                 ⟨18, some 64, none, .op .quiet (oIdxS 1 (.tmp 49) (.tmp 52)), []⟩,
                 ⟨19, none, none, .op .hard (oStore 1 (.tmp 64) (.tmp 62)), []⟩]))))
            (.ops [⟨0, some 34, none, .op .quiet (oMv (.tmp 9)), []⟩,
              ⟨1, some 35, none, .op .quiet (oArith .add (.tmp 34) (.val (.int .i64 1))), []⟩,
              ⟨2, some 9, none, .op .quiet (oMv (.tmp 35)), []⟩]))))))))
     (.skip))))⟩
/-- slices.choosePivotOrdered[int] -/
noncomputable def a354 : AF := ⟨[.tmp 6, .tmp 7],
 (.seq
   (.ops [⟨0, some 6, none, .op .quiet (oMv (.val (.int .i64 0))), []⟩,
     ⟨1, some 7, none, .op .quiet (oMv (.val (.int .i64 0))), []⟩])
   (.seq
    (.ops [⟨0, some 13, none, .op .quiet (oMv (.tmp 2)), []⟩,
      ⟨1, some 14, none, .op .quiet (oMv (.tmp 1)), []⟩,
      ⟨2, some 15, none, .op .quiet (oArith .sub (.tmp 13) (.tmp 14)), []⟩,
      ⟨3, some 8, none, .op .quiet (oMv (.tmp 15)), []⟩])
    (.seq
     (.ops [⟨0, some 9, none, .op .quiet (oAlloc [(.int .i64 0)]), []⟩])
     (.seq
      (.ops [⟨0, some 16, none, .op .quiet (oMv (.tmp 1)), []⟩,
        ⟨1, some 17, none, .op .quiet (oMv (.tmp 8)), []⟩,
        ⟨2, some 18, none, .op .quiet (oArith .quo (.tmp 17) (.val (.int .i64 4))), []⟩,
        ⟨3, some 19, none, .op .quiet (oArith .mul (.tmp 18) (.val (.int .i64 1))), []⟩,
        ⟨4, some 20, none, .op .quiet (oArith .add (.tmp 16) (.tmp 19)), []⟩,
        ⟨5, some 10, none, .op .quiet (oMv (.tmp 20)), []⟩])
      (.seq
       (.ops [⟨0, some 21, none, .op .quiet (oMv (.tmp 1)), []⟩,
         ⟨1, some 22, none, .op .quiet (oMv (.tmp 8)), []⟩,
         ⟨2, some 23, none, .op .quiet (oArith .quo (.tmp 22) (.val (.int .i64 4))), []⟩,
         ⟨3, some 24, none, .op .quiet (oArith .mul (.tmp 23) (.val (.int .i64 2))), []⟩,
         ⟨4, some 25, none, .op .quiet (oArith .add (.tmp 21) (.tmp 24)), []⟩,
         ⟨5, some 11, none, .op .quiet (oMv (.tmp 25)), []⟩])
       (.seq
        (.ops [⟨0, some 26, none, .op .quiet (oMv (.tmp 1)), []⟩,
          ⟨1, some 27, none, .op .quiet (oMv (.tmp 8)), []⟩,
          ⟨2, some 28, none, .op .quiet (oArith .quo (.tmp 27) (.val (.int .i64 4))), []⟩,
          ⟨3, some 29, none, .op .quiet (oArith .mul (.tmp 28) (.val (.int .i64 3))), []⟩,
          ⟨4, some 30, none, .op .quiet (oArith .add (.tmp 26) (.tmp 29)), []⟩,
          ⟨5, some 12, none, .op .quiet (oMv (.tmp 30)), []⟩])
        (.seq
         (.seq
          (.ops [⟨0, some 31, none, .op .quiet (oMv (.tmp 8)), []⟩,
            ⟨1, some 32, none, .op .quiet (oArith .geq (.tmp 31) (.val (.int .i64 8))), []⟩])
          (.cond (.tmp 32)
           (.seq
            (.seq
             (.ops [⟨0, some 33, none, .op .quiet (oMv (.tmp 8)), []⟩,
               ⟨1, some 34, none, .op .quiet (oArith .geq (.tmp 33) (.val (.int .i64 50))), []⟩])
             (.cond (.tmp 34)
              (.seq
               (.ops [⟨0, some 35, none, .op .quiet (oMv (.tmp 0)), []⟩,
                 ⟨1, some 36, none, .op .quiet (oMv (.tmp 10)), []⟩,
                 ⟨2, some 37, none, .callF 375 [(.tmp 35), (.tmp 36), (.tmp 9)], []⟩,
                 ⟨3, some 10, none, .op .quiet (oMv (.tmp 37)), []⟩])
               (.seq
                (.ops [⟨0, some 38, none, .op .quiet (oMv (.tmp 0)), []⟩,
                  ⟨1, some 39, none, .op .quiet (oMv (.tmp 11)), []⟩,
                  ⟨2, some 40, none, .callF 375 [(.tmp 38), (.tmp 39), (.tmp 9)], []⟩,
                  ⟨3, some 11, none, .op .quiet (oMv (.tmp 40)), []⟩])
                (.ops [⟨0, some 41, none, .op .quiet (oMv (.tmp 0)), []⟩,
                  ⟨1, some 42, none, .op .quiet (oMv (.tmp 12)), []⟩,
                  ⟨2, some 43, none, .callF 375 [(.tmp 41), (.tmp 42), (.tmp 9)], []⟩,
                  ⟨3, some 12, none, .op .quiet (oMv (.tmp 43)), []⟩])))
              (.skip)))
            (.ops [⟨0, some 44, none, .op .quiet (oMv (.tmp 0)), []⟩,
              ⟨1, some 45, none, .op .quiet (oMv (.tmp 10)), []⟩,
              ⟨2, some 46, none, .op .quiet (oMv (.tmp 11)), []⟩,
              ⟨3, some 47, none, .op .quiet (oMv (.tmp 12)), []⟩,
              ⟨4, some 48, none, .callF 376 [(.tmp 44), (.tmp 45), (.tmp 46), (.tmp 47), (.tmp 9)], []⟩,
              ⟨5, some 11, none, .op .quiet (oMv (.tmp 48)), []⟩]))
           (.skip)))
         (.seq
          (.ops [⟨0, some 49, none, .op .reads (oLoad (.tmp 9)), []⟩])
          (.block 0
           (.seq
            (.ops [⟨0, some 52, none, .op .quiet (oArith .eql (.tmp 49) (.val (.int .i64 0))), []⟩,
              ⟨1, some 51, none, .op .quiet (oMv (.tmp 52)), []⟩])
            (.cond (.tmp 51)
             (.seq
              (.ops [⟨0, some 53, none, .op .quiet (oMv (.tmp 11)), []⟩,
                ⟨1, some 6, none, .op .quiet (oMv (.tmp 53)), []⟩,
                ⟨2, some 7, none, .op .quiet (oMv (.val (.int .i64 1))), []⟩])
              (.ret))
             (.seq
              (.ops [⟨0, some 55, none, .op .quiet (oArith .eql (.tmp 49) (.val (.int .i64 12))), []⟩,
                ⟨1, some 54, none, .op .quiet (oMv (.tmp 55)), []⟩])
              (.cond (.tmp 54)
               (.seq
                (.ops [⟨0, some 56, none, .op .quiet (oMv (.tmp 11)), []⟩,
                  ⟨1, some 6, none, .op .quiet (oMv (.tmp 56)), []⟩,
                  ⟨2, some 7, none, .op .quiet (oMv (.val (.int .i64 2))), []⟩])
                (.ret))
               (.seq
                (.ops [⟨0, some 50, none, .op .quiet (oMv (.tmp 11)), []⟩,
                  ⟨1, some 6, none, .op .quiet (oMv (.tmp 50)), []⟩,
                  ⟨2, some 7, none, .op .quiet (oMv (.val (.int .i64 0))), []⟩])
                (.ret)))))))))))))))⟩
/-- slices.reverseRangeOrdered[int] -/
noncomputable def a355 : AF := ⟨[],
 (.seq
   (.ops [⟨0, some 8, none, .op .quiet (oMv (.tmp 1)), []⟩,
     ⟨1, some 6, none, .op .quiet (oMv (.tmp 8)), []⟩])
   (.seq
    (.ops [⟨0, some 9, none, .op .quiet (oMv (.tmp 2)), []⟩,
      ⟨1, some 10, none, .op .quiet (oArith .sub (.tmp 9) (.val (.int .i64 1))), []⟩,
      ⟨2, some 7, none, .op .quiet (oMv (.tmp 10)), []⟩])
    (.block 0
     (.loop
      (.seq
       (.seq
        (.ops [⟨0, some 11, none, .op .quiet (oMv (.tmp 6)), []⟩,
          ⟨1, some 12, none, .op .quiet (oMv (.tmp 7)), []⟩,
          ⟨2, some 13, none, .op .quiet (oArith .lss (.tmp 11) (.tmp 12)), []⟩])
        (.cond (.tmp 13)
         (.skip)
         (.exit 0)))
       (.block 1
        (.seq
         (.drawn [⟨0, some 14, none, .op .quiet (oMv (.tmp 0)), []⟩,
           ⟨1, some 15, none, .op .quiet (oMv (.tmp 6)), []⟩,
           ⟨2, some 16, none, .op .quiet (oMv (.tmp 0)), []⟩,
           ⟨3, some 17, none, .op .quiet (oMv (.tmp 7)), []⟩,
           ⟨4, some 18, none, .op .quiet (oMv (.tmp 0)), []⟩,
           ⟨5, some 19, none, .op .quiet (oMv (.tmp 7)), []⟩,
           ⟨6, some 20, none, .op .quiet (oIdxS 1 (.tmp 18) (.tmp 19)), []⟩,
           ⟨7, some 21, none, .op .reads (oLoad (.tmp 20)), []⟩,
           ⟨8, some 22, none, .op .quiet (oMv (.tmp 0)), []⟩,
           ⟨9, some 23, none, .op .quiet (oMv (.tmp 6)), []⟩,
           ⟨10, some 24, none, .op .quiet (oIdxS 1 (.tmp 22) (.tmp 23)), []⟩,
           ⟨11, some 25, none, .op .reads (oLoad (.tmp 24)), []⟩,
           ⟨12, some 26, none, .op .quiet (oIdxS 1 (.tmp 14) (.tmp 15)), []⟩,
           ⟨13, none, none, .op .hard (oStore 1 (.tmp 26) (.tmp 21)), []⟩,
           ⟨14, some 27, none, .op .quiet (oIdxS 1 (.tmp 16) (.tmp 17)), []⟩,
           ⟨15, none, none, .op .hard (oStore 1 (.tmp 27) (.tmp 25)), []⟩])
         (.seq
          (.ops [⟨0, some 28, none, .op .quiet (oMv (.tmp 6)), []⟩,
            ⟨1, some 29, none, .op .quiet (oArith .add (.tmp 28) (.val (.int .i64 1))), []⟩,
            ⟨2, some 6, none, .op .quiet (oMv (.tmp 29)), []⟩])
          (.ops [⟨0, some 30, none, .op .quiet (oMv (.tmp 7)), []⟩,
            ⟨1, some 31, none, .op .quiet (oArith .sub (.tmp 30) (.val (.int .i64 1))), []⟩,
            ⟨2, some 7, none, .op .quiet (oMv (.tmp 31)), []⟩])))))))))⟩
/-- slices.partialInsertionSortOrdered[int] -/
noncomputable def a356 : AF := ⟨[.tmp 6],
 (.seq
   (.ops [⟨0, some 6, none, .op .quiet (oMv (.val (.bool false))), []⟩])
   (.seq
    (.ops [⟨0, some 11, none, .op .quiet (oMv (.tmp 1)), []⟩,
      ⟨1, some 12, none, .op .quiet (oArith .add (.tmp 11) (.val (.int .i64 1))), []⟩,
      ⟨2, some 7, none, .op .quiet (oMv (.tmp 12)), []⟩])
    (.seq
     (.seq
      (.ops [⟨0, some 8, none, .op .quiet (oMv (.val (.int .i64 0))), []⟩])
      (.block 0
       (.loop
        (.seq
         (.seq
          (.ops [⟨0, some 13, none, .op .quiet (oMv (.tmp 8)), []⟩,
            ⟨1, some 14, none, .op .quiet (oArith .lss (.tmp 13) (.val (.int .i64 5))), []⟩])
          (.cond (.tmp 14)
           (.skip)
           (.exit 0)))
         (.seq
          (.block 1
           (.seq
            (.block 2
             (.loop
              (.seq
               (.seq
                (.drawn [⟨0, some 17, none, .op .quiet (oMv (.tmp 7)), []⟩,
                  ⟨1, some 18, none, .op .quiet (oMv (.tmp 2)), []⟩,
                  ⟨2, some 19, none, .op .quiet (oArith .lss (.tmp 17) (.tmp 18)), []⟩,
                  ⟨3, some 20, none, .op .quiet (oMv (.tmp 19)), []⟩,
                  ⟨4, some 21, some (20, true), .op .quiet (oMv (.tmp 0)), []⟩,
                  ⟨5, some 22, some (20, true), .op .quiet (oMv (.tmp 7)), []⟩,
                  ⟨6, some 23, some (20, true), .op .quiet (oIdxS 1 (.tmp 21) (.tmp 22)), []⟩,
                  ⟨7, some 24, some (20, true), .op .reads (oLoad (.tmp 23)), []⟩,
                  ⟨8, some 25, some (20, true), .op .quiet (oMv (.tmp 0)), []⟩,
                  ⟨9, some 26, some (20, true), .op .quiet (oMv (.tmp 7)), []⟩,
                  ⟨10, some 27, some (20, true), .op .quiet (oArith .sub (.tmp 26) (.val (.int .i64 1))), []⟩,
                  ⟨11, some 28, some (20, true), .op .quiet (oIdxS 1 (.tmp 25) (.tmp 27)), []⟩,
                  ⟨12, some 29, some (20, true), .op .reads (oLoad (.tmp 28)), []⟩,
                  ⟨13, some 30, some (20, true), .callF 357 [(.tmp 24), (.tmp 29)], []⟩,
                  ⟨14, some 31, some (20, true), .op .quiet (oNot (.tmp 30)), []⟩,
                  ⟨15, some 32, none, .op .quiet (oPick (.tmp 20) (.tmp 31) (.val (.bool false))), []⟩])
                (.cond (.tmp 32)
                 (.skip)
                 (.exit 2)))
               (.block 3
                (.ops [⟨0, some 33, none, .op .quiet (oMv (.tmp 7)), []⟩,
                  ⟨1, some 34, none, .op .quiet (oArith .add (.tmp 33) (.val (.int .i64 1))), []⟩,
                  ⟨2, some 7, none, .op .quiet (oMv (.tmp 34)), []⟩])))))
            (.seq
             (.seq
              (.ops [⟨0, some 35, none, .op .quiet (oMv (.tmp 7)), []⟩,
                ⟨1, some 36, none, .op .quiet (oMv (.tmp 2)), []⟩,
                ⟨2, some 37, none, .op .quiet (oArith .eql (.tmp 35) (.tmp 36)), []⟩])
              (.cond (.tmp 37)
               (.seq
                (.ops [⟨0, some 6, none, .op .quiet (oMv (.val (.bool true))), []⟩])
                (.ret))
               (.skip)))
             (.seq
              (.seq
               (.ops [⟨0, some 38, none, .op .quiet (oMv (.tmp 2)), []⟩,
                 ⟨1, some 39, none, .op .quiet (oMv (.tmp 1)), []⟩,
                 ⟨2, some 40, none, .op .quiet (oArith .sub (.tmp 38) (.tmp 39)), []⟩,
                 ⟨3, some 41, none, .op .quiet (oArith .lss (.tmp 40) (.val (.int .i64 50))), []⟩])
               (.cond (.tmp 41)
                (.seq
                 (.ops [⟨0, some 6, none, .op .quiet (oMv (.val (.bool false))), []⟩])
                 (.ret))
                (.skip)))
              (.seq
               (.drawn [⟨0, some 42, none, .op .quiet (oMv (.tmp 0)), []⟩,
                 ⟨1, some 43, none, .op .quiet (oMv (.tmp 7)), []⟩,
                 ⟨2, some 44, none, .op .quiet (oMv (.tmp 0)), []⟩,
                 ⟨3, some 45, none, .op .quiet (oMv (.tmp 7)), []⟩,
                 ⟨4, some 46, none, .op .quiet (oArith .sub (.tmp 45) (.val (.int .i64 1))), []⟩,
                 ⟨5, some 47, none, .op .quiet (oMv (.tmp 0)), []⟩,
                 ⟨6, some 48, none, .op .quiet (oMv (.tmp 7)), []⟩,
                 ⟨7, some 49, none, .op .quiet (oArith .sub (.tmp 48) (.val (.int .i64 1))), []⟩,
                 ⟨8, some 50, none, .op .quiet (oIdxS 1 (.tmp 47) (.tmp 49)), []⟩,
                 ⟨9, some 51, none, .op .reads (oLoad (.tmp 50)), []⟩,
                 ⟨10, some 52, none, .op .quiet (oMv (.tmp 0)), []⟩,
                 ⟨11, some 53, none, .op .quiet (oMv (.tmp 7)), []⟩,
                 ⟨12, some 54, none, .op .quiet (oIdxS 1 (.tmp 52) (.tmp 53)), []⟩,
                 ⟨13, some 55, none, .op .reads (oLoad (.tmp 54)), []⟩,
                 ⟨14, some 56, none, .op .quiet (oIdxS 1 (.tmp 42) (.tmp 43)), []⟩,
                 ⟨15, none, none, .op .hard (oStore 1 (.tmp 56) (.tmp 51)), []⟩,
                 ⟨16, some 57, none, .op .quiet (oIdxS 1 (.tmp 44) (.tmp 46)), []⟩,
                 ⟨17, none, none, .op .hard (oStore 1 (.tmp 57) (.tmp 55)), []⟩])
               (.seq
                (.seq
                 (.ops [⟨0, some 58, none, .op .quiet (oMv (.tmp 7)), []⟩,
                   ⟨1, some 59, none, .op .quiet (oMv (.tmp 1)), []⟩,
                   ⟨2, some 60, none, .op .quiet (oArith .sub (.tmp 58) (.tmp 59)), []⟩,
                   ⟨3, some 61, none, .op .quiet (oArith .geq (.tmp 60) (.val (.int .i64 2))), []⟩])
                 (.cond (.tmp 61)
                  (.seq
                   (.ops [⟨0, some 62, none, .op .quiet (oMv (.tmp 7)), []⟩,
                     ⟨1, some 63, none, .op .quiet (oArith .sub (.tmp 62) (.val (.int .i64 1))), []⟩,
                     ⟨2, some 9, none, .op .quiet (oMv (.tmp 63)), []⟩])
                   (.block 4
                    (.loop
                     (.seq
                      (.seq
                       (.ops [⟨0, some 64, none, .op .quiet (oMv (.tmp 9)), []⟩,
                         ⟨1, some 65, none, .op .quiet (oArith .geq (.tmp 64) (.val (.int .i64 1))), []⟩])
                       (.cond (.tmp 65)
                        (.skip)
                        (.exit 4)))
                      (.seq
                       (.block 5
                        (.seq
                         (.seq
                          (.drawn [⟨0, some 68, none, .op .quiet (oMv (.tmp 0)), []⟩,
                            ⟨1, some 69, none, .op .quiet (oMv (.tmp 9)), []⟩,
                            ⟨2, some 70, none, .op .quiet (oIdxS 1 (.tmp 68) (.tmp 69)), []⟩,
                            ⟨3, some 71, none, .op .reads (oLoad (.tmp 70)), []⟩,
                            ⟨4, some 72, none, .op .quiet (oMv (.tmp 0)), []⟩,
                            ⟨5, some 73, none, .op .quiet (oMv (.tmp 9)), []⟩,
                            ⟨6, some 74, none, .op .quiet (oArith .sub (.tmp 73) (.val (.int .i64 1))), []⟩,
                            ⟨7, some 75, none, .op .quiet (oIdxS 1 (.tmp 72) (.tmp 74)), []⟩,
                            ⟨8, some 76, none, .op .reads (oLoad (.tmp 75)), []⟩,
                            ⟨9, some 77, none, .callF 357 [(.tmp 71), (.tmp 76)], []⟩,
                            ⟨10, some 78, none, .op .quiet (oNot (.tmp 77)), []⟩])
                          (.cond (.tmp 78)
                           (.exit 4)
                           (.skip)))
                         (.drawn [⟨0, some 79, none, .op .quiet (oMv (.tmp 0)), []⟩,
                           ⟨1, some 80, none, .op .quiet (oMv (.tmp 9)), []⟩,
                           ⟨2, some 81, none, .op .quiet (oMv (.tmp 0)), []⟩,
                           ⟨3, some 82, none, .op .quiet (oMv (.tmp 9)), []⟩,
                           ⟨4, some 83, none, .op .quiet (oArith .sub (.tmp 82) (.val (.int .i64 1))), []⟩,
                           ⟨5, some 84, none, .op .quiet (oMv (.tmp 0)), []⟩,
                           ⟨6, some 85, none, .op .quiet (oMv (.tmp 9)), []⟩,
                           ⟨7, some 86, none, .op .quiet (oArith .sub (.tmp 85) (.val (.int .i64 1))), []⟩,
                           ⟨8, some 87, none, .op .quiet (oIdxS 1 (.tmp 84) (.tmp 86)), []⟩,
                           ⟨9, some 88, none, .op .reads (oLoad (.tmp 87)), []⟩,
                           ⟨10, some 89, none, .op .quiet (oMv (.tmp 0)), []⟩,
                           ⟨11, some 90, none, .op .quiet (oMv (.tmp 9)), []⟩,
                           ⟨12, some 91, none, .op .quiet (oIdxS 1 (.tmp 89) (.tmp 90)), []⟩,
                           ⟨13, some 92, none, .op .reads (oLoad (.tmp 91)), []⟩,
                           ⟨14, some 93, none, .op .quiet (oIdxS 1 (.tmp 79) (.tmp 80)), []⟩,
                           ⟨15, none, none, .op .hard (oStore 1 (.tmp 93) (.tmp 88)), []⟩,
                           ⟨16, some 94, none, .op .quiet (oIdxS 1 (.tmp 81) (.tmp 83)), []⟩,
                           ⟨17, none, none, .op .hard (oStore 1 (.tmp 94) (.tmp 92)), []⟩])))
                       (.ops [⟨0, some 66, none, .op .quiet (oMv (.tmp 9)), []⟩,
                         ⟨1, some 67, none, .op .quiet (oArith .sub (.tmp 66) (.val (.int .i64 1))), []⟩,
                         ⟨2, some 9, none, .op .quiet (oMv (.tmp 67)), []⟩]))))))
                  (.skip)))
                (.seq
                 (.ops [⟨0, some 95, none, .op .quiet (oMv (.tmp 2)), []⟩,
                   ⟨1, some 96, none, .op .quiet (oMv (.tmp 7)), []⟩,
                   ⟨2, some 97, none, .op .quiet (oArith .sub (.tmp 95) (.tmp 96)), []⟩,
                   ⟨3, some 98, none, .op .quiet (oArith .geq (.tmp 97) (.val (.int .i64 2))), []⟩])
                 (.cond (.tmp 98)
                  (.seq
                   (.ops [⟨0, some 99, none, .op .quiet (oMv (.tmp 7)), []⟩,
                     ⟨1, some 100, none, .op .quiet (oArith .add (.tmp 99) (.val (.int .i64 1))), []⟩,
                     ⟨2, some 10, none, .op .quiet (oMv (.tmp 100)), []⟩])
                   (.block 6
                    (.loop
                     (.seq
                      (.seq
                       (.ops [⟨0, some 101, none, .op .quiet (oMv (.tmp 10)), []⟩,
                         ⟨1, some 102, none, .op .quiet (oMv (.tmp 2)), []⟩,
                         ⟨2, some 103, none, .op .quiet (oArith .lss (.tmp 101) (.tmp 102)), []⟩])
                       (.cond (.tmp 103)
                        (.skip)
                        (.exit 6)))
                      (.seq
                       (.block 7
                        (.seq
                         (.seq
                          (.drawn [⟨0, some 106, none, .op .quiet (oMv (.tmp 0)), []⟩,
                            ⟨1, some 107, none, .op .quiet (oMv (.tmp 10)), []⟩,
                            ⟨2, some 108, none, .op .quiet (oIdxS 1 (.tmp 106) (.tmp 107)), []⟩,
                            ⟨3, some 109, none, .op .reads (oLoad (.tmp 108)), []⟩,
                            ⟨4, some 110, none, .op .quiet (oMv (.tmp 0)), []⟩,
                            ⟨5, some 111, none, .op .quiet (oMv (.tmp 10)), []⟩,
                            ⟨6, some 112, none, .op .quiet (oArith .sub (.tmp 111) (.val (.int .i64 1))), []⟩,
                            ⟨7, some 113, none, .op .quiet (oIdxS 1 (.tmp 110) (.tmp 112)), []⟩,
                            ⟨8, some 114, none, .op .reads (oLoad (.tmp 113)), []⟩,
                            ⟨9, some 115, none, .callF 357 [(.tmp 109), (.tmp 114)], []⟩,
                            ⟨10, some 116, none, .op .quiet (oNot (.tmp 115)), []⟩])
                          (.cond (.tmp 116)
                           (.exit 6)
                           (.skip)))
                         (.drawn [⟨0, some 117, none, .op .quiet (oMv (.tmp 0)), []⟩,
                           ⟨1, some 118, none, .op .quiet (oMv (.tmp 10)), []⟩,
                           ⟨2, some 119, none, .op .quiet (oMv (.tmp 0)), []⟩,
                           ⟨3, some 120, none, .op .quiet (oMv (.tmp 10)), []⟩,
                           ⟨4, some 121, none, .op .quiet (oArith .sub (.tmp 120) (.val (.int .i64 1))), []⟩,
                           ⟨5, some 122, none, .op .quiet (oMv (.tmp 0)), []⟩,
                           ⟨6, some 123, none, .op .quiet (oMv (.tmp 10)), []⟩,
                           ⟨7, some 124, none, .op .quiet (oArith .sub (.tmp 123) (.val (.int .i64 1))), []⟩,
                           ⟨8, some 125, none, .op .quiet (oIdxS 1 (.tmp 122) (.tmp 124)), []⟩,
                           ⟨9, some 126, none, .op .reads (oLoad (.tmp 125)), []⟩,
                           ⟨10, some 127, none, .op .quiet (oMv (.tmp 0)), []⟩,
                           ⟨11, some 128, none, .op .quiet (oMv (.tmp 10)), []⟩,
                           ⟨12, some 129, none, .op .quiet (oIdxS 1 (.tmp 127) (.tmp 128)), []⟩,
                           ⟨13, some 130, none, .op .reads (oLoad (.tmp 129)), []⟩,
                           ⟨14, some 131, none, .op .quiet (oIdxS 1 (.tmp 117) (.tmp 118)), []⟩,
                           ⟨15, none, none, .op .hard (oStore 1 (.tmp 131) (.tmp 126)), []⟩,
                           ⟨16, some 132, none, .op .quiet (oIdxS 1 (.tmp 119) (.tmp 121)), []⟩,
                           ⟨17, none, none, .op .hard (oStore 1 (.tmp 132) (.tmp 130)), []⟩])))
                       (.ops [⟨0, some 104, none, .op .quiet (oMv (.tmp 10)), []⟩,
                         ⟨1, some 105, none, .op .quiet (oArith .add (.tmp 104) (.val (.int .i64 1))), []⟩,
                         ⟨2, some 10, none, .op .quiet (oMv (.tmp 105)), []⟩]))))))
                  (.skip)))))))))
          (.ops [⟨0, some 15, none, .op .quiet (oMv (.tmp 8)), []⟩,
            ⟨1, some 16, none, .op .quiet (oArith .add (.tmp 15) (.val (.int .i64 1))), []⟩,
            ⟨2, some 8, none, .op .quiet (oMv (.tmp 16)), []⟩]))))))
     (.seq
      (.ops [⟨0, some 6, none, .op .quiet (oMv (.val (.bool false))), []⟩])
      (.ret)))))⟩
/-- cmp.Less[int] -/
noncomputable def a357 : AF := ⟨[.tmp 4],
 (.seq
   (.ops [⟨0, some 4, none, .op .quiet (oMv (.val (.bool false))), []⟩])
   (.seq
    (.ops [⟨0, some 5, none, .op .quiet (oMv (.tmp 0)), []⟩,
      ⟨1, some 6, none, .callF 317 [(.tmp 5)], []⟩,
      ⟨2, some 7, none, .op .quiet (oMv (.tmp 6)), []⟩,
      ⟨3, some 8, some (7, true), .op .quiet (oMv (.tmp 1)), []⟩,
      ⟨4, some 9, some (7, true), .callF 317 [(.tmp 8)], []⟩,
      ⟨5, some 10, some (7, true), .op .quiet (oNot (.tmp 9)), []⟩,
      ⟨6, some 11, none, .op .quiet (oPick (.tmp 7) (.tmp 10) (.val (.bool false))), []⟩,
      ⟨7, some 12, none, .op .quiet (oMv (.tmp 11)), []⟩,
      ⟨8, some 13, some (12, false), .op .quiet (oMv (.tmp 0)), []⟩,
      ⟨9, some 14, some (12, false), .op .quiet (oMv (.tmp 1)), []⟩,
      ⟨10, some 15, some (12, false), .op .quiet (oArith .lss (.tmp 13) (.tmp 14)), []⟩,
      ⟨11, some 16, none, .op .quiet (oPick (.tmp 12) (.val (.bool true)) (.tmp 15)), []⟩,
      ⟨12, some 4, none, .op .quiet (oMv (.tmp 16)), []⟩])
    (.ret)))⟩
/-- slices.partitionEqualOrdered[int] -/
noncomputable def a358 : AF := ⟨[.tmp 8],
 (.seq
   (.ops [⟨0, some 8, none, .op .quiet (oMv (.val (.int .i64 0))), []⟩])
   (.seq
    (.drawn [⟨0, some 11, none, .op .quiet (oMv (.tmp 0)), []⟩,
      ⟨1, some 12, none, .op .quiet (oMv (.tmp 1)), []⟩,
      ⟨2, some 13, none, .op .quiet (oMv (.tmp 0)), []⟩,
      ⟨3, some 14, none, .op .quiet (oMv (.tmp 3)), []⟩,
      ⟨4, some 15, none, .op .quiet (oMv (.tmp 0)), []⟩,
      ⟨5, some 16, none, .op .quiet (oMv (.tmp 3)), []⟩,
      ⟨6, some 17, none, .op .quiet (oIdxS 1 (.tmp 15) (.tmp 16)), []⟩,
      ⟨7, some 18, none, .op .reads (oLoad (.tmp 17)), []⟩,
      ⟨8, some 19, none, .op .quiet (oMv (.tmp 0)), []⟩,
      ⟨9, some 20, none, .op .quiet (oMv (.tmp 1)), []⟩,
      ⟨10, some 21, none, .op .quiet (oIdxS 1 (.tmp 19) (.tmp 20)), []⟩,
      ⟨11, some 22, none, .op .reads (oLoad (.tmp 21)), []⟩,
      ⟨12, some 23, none, .op .quiet (oIdxS 1 (.tmp 11) (.tmp 12)), []⟩,
      ⟨13, none, none, .op .hard (oStore 1 (.tmp 23) (.tmp 18)), []⟩,
      ⟨14, some 24, none, .op .quiet (oIdxS 1 (.tmp 13) (.tmp 14)), []⟩,
      ⟨15, none, none, .op .hard (oStore 1 (.tmp 24) (.tmp 22)), []⟩])
    (.seq
     (.ops [⟨0, some 25, none, .op .quiet (oMv (.tmp 1)), []⟩,
       ⟨1, some 26, none, .op .quiet (oArith .add (.tmp 25) (.val (.int .i64 1))), []⟩,
       ⟨2, some 27, none, .op .quiet (oMv (.tmp 2)), []⟩,
       ⟨3, some 28, none, .op .quiet (oArith .sub (.tmp 27) (.val (.int .i64 1))), []⟩,
       ⟨4, some 9, none, .op .quiet (oMv (.tmp 26)), []⟩,
       ⟨5, some 10, none, .op .quiet (oMv (.tmp 28)), []⟩])
     (.seq
      (.block 0
       (.loop
        (.block 1
         (.seq
          (.block 2
           (.loop
            (.seq
             (.seq
              (.drawn [⟨0, some 29, none, .op .quiet (oMv (.tmp 9)), []⟩,
                ⟨1, some 30, none, .op .quiet (oMv (.tmp 10)), []⟩,
                ⟨2, some 31, none, .op .quiet (oArith .leq (.tmp 29) (.tmp 30)), []⟩,
                ⟨3, some 32, none, .op .quiet (oMv (.tmp 31)), []⟩,
                ⟨4, some 33, some (32, true), .op .quiet (oMv (.tmp 0)), []⟩,
                ⟨5, some 34, some (32, true), .op .quiet (oMv (.tmp 1)), []⟩,
                ⟨6, some 35, some (32, true), .op .quiet (oIdxS 1 (.tmp 33) (.tmp 34)), []⟩,
                ⟨7, some 36, some (32, true), .op .reads (oLoad (.tmp 35)), []⟩,
                ⟨8, some 37, some (32, true), .op .quiet (oMv (.tmp 0)), []⟩,
                ⟨9, some 38, some (32, true), .op .quiet (oMv (.tmp 9)), []⟩,
                ⟨10, some 39, some (32, true), .op .quiet (oIdxS 1 (.tmp 37) (.tmp 38)), []⟩,
                ⟨11, some 40, some (32, true), .op .reads (oLoad (.tmp 39)), []⟩,
                ⟨12, some 41, some (32, true), .callF 357 [(.tmp 36), (.tmp 40)], []⟩,
                ⟨13, some 42, some (32, true), .op .quiet (oNot (.tmp 41)), []⟩,
                ⟨14, some 43, none, .op .quiet (oPick (.tmp 32) (.tmp 42) (.val (.bool false))), []⟩])
              (.cond (.tmp 43)
               (.skip)
               (.exit 2)))
             (.block 3
              (.ops [⟨0, some 44, none, .op .quiet (oMv (.tmp 9)), []⟩,
                ⟨1, some 45, none, .op .quiet (oArith .add (.tmp 44) (.val (.int .i64 1))), []⟩,
                ⟨2, some 9, none, .op .quiet (oMv (.tmp 45)), []⟩])))))
          (.seq
           (.block 4
            (.loop
             (.seq
              (.seq
               (.drawn [⟨0, some 46, none, .op .quiet (oMv (.tmp 9)), []⟩,
                 ⟨1, some 47, none, .op .quiet (oMv (.tmp 10)), []⟩,
                 ⟨2, some 48, none, .op .quiet (oArith .leq (.tmp 46) (.tmp 47)), []⟩,
                 ⟨3, some 49, none, .op .quiet (oMv (.tmp 48)), []⟩,
                 ⟨4, some 50, some (49, true), .op .quiet (oMv (.tmp 0)), []⟩,
                 ⟨5, some 51, some (49, true), .op .quiet (oMv (.tmp 1)), []⟩,
                 ⟨6, some 52, some (49, true), .op .quiet (oIdxS 1 (.tmp 50) (.tmp 51)), []⟩,
                 ⟨7, some 53, some (49, true), .op .reads (oLoad (.tmp 52)), []⟩,
                 ⟨8, some 54, some (49, true), .op .quiet (oMv (.tmp 0)), []⟩,
                 ⟨9, some 55, some (49, true), .op .quiet (oMv (.tmp 10)), []⟩,
                 ⟨10, some 56, some (49, true), .op .quiet (oIdxS 1 (.tmp 54) (.tmp 55)), []⟩,
                 ⟨11, some 57, some (49, true), .op .reads (oLoad (.tmp 56)), []⟩,
                 ⟨12, some 58, some (49, true), .callF 357 [(.tmp 53), (.tmp 57)], []⟩,
                 ⟨13, some 59, none, .op .quiet (oPick (.tmp 49) (.tmp 58) (.val (.bool false))), []⟩])
               (.cond (.tmp 59)
                (.skip)
                (.exit 4)))
              (.block 5
               (.ops [⟨0, some 60, none, .op .quiet (oMv (.tmp 10)), []⟩,
                 ⟨1, some 61, none, .op .quiet (oArith .sub (.tmp 60) (.val (.int .i64 1))), []⟩,
                 ⟨2, some 10, none, .op .quiet (oMv (.tmp 61)), []⟩])))))
           (.seq
            (.seq
             (.ops [⟨0, some 62, none, .op .quiet (oMv (.tmp 9)), []⟩,
               ⟨1, some 63, none, .op .quiet (oMv (.tmp 10)), []⟩,
               ⟨2, some 64, none, .op .quiet (oArith .gtr (.tmp 62) (.tmp 63)), []⟩])
             (.cond (.tmp 64)
              (.exit 0)
              (.skip)))
            (.seq
             (.drawn [⟨0, some 65, none, .op .quiet (oMv (.tmp 0)), []⟩,
               ⟨1, some 66, none, .op .quiet (oMv (.tmp 9)), []⟩,
               ⟨2, some 67, none, .op .quiet (oMv (.tmp 0)), []⟩,
               ⟨3, some 68, none, .op .quiet (oMv (.tmp 10)), []⟩,
               ⟨4, some 69, none, .op .quiet (oMv (.tmp 0)), []⟩,
               ⟨5, some 70, none, .op .quiet (oMv (.tmp 10)), []⟩,
               ⟨6, some 71, none, .op .quiet (oIdxS 1 (.tmp 69) (.tmp 70)), []⟩,
               ⟨7, some 72, none, .op .reads (oLoad (.tmp 71)), []⟩,
               ⟨8, some 73, none, .op .quiet (oMv (.tmp 0)), []⟩,
               ⟨9, some 74, none, .op .quiet (oMv (.tmp 9)), []⟩,
               ⟨10, some 75, none, .op .quiet (oIdxS 1 (.tmp 73) (.tmp 74)), []⟩,
               ⟨11, some 76, none, .op .reads (oLoad (.tmp 75)), []⟩,
               ⟨12, some 77, none, .op .quiet (oIdxS 1 (.tmp 65) (.tmp 66)), []⟩,
               ⟨13, none, none, .op .hard (oStore 1 (.tmp 77) (.tmp 72)), []⟩,
               ⟨14, some 78, none, .op .quiet (oIdxS 1 (.tmp 67) (.tmp 68)), []⟩,
               ⟨15, none, none, .op .hard (oStore 1 (.tmp 78) (.tmp 76)), []⟩])
             (.seq
              (.ops [⟨0, some 79, none, .op .quiet (oMv (.tmp 9)), []⟩,
                ⟨1, some 80, none, .op .quiet (oArith .add (.tmp 79) (.val (.int .i64 1))), []⟩,
                ⟨2, some 9, none, .op .quiet (oMv (.tmp 80)), []⟩])
              (.ops [⟨0, some 81, none, .op .quiet (oMv (.tmp 10)), []⟩,
                ⟨1, some 82, none, .op .quiet (oArith .sub (.tmp 81) (.val (.int .i64 1))), []⟩,
                ⟨2, some 10, none, .op .quiet (oMv (.tmp 82)), []⟩])))))))))
      (.seq
       (.ops [⟨0, some 83, none, .op .quiet (oMv (.tmp 9)), []⟩,
         ⟨1, some 8, none, .op .quiet (oMv (.tmp 83)), []⟩])
       (.ret))))))⟩
/-- slices.partitionOrdered[int] -/
noncomputable def a359 : AF := ⟨[.tmp 8, .tmp 9],
 (.seq
   (.ops [⟨0, some 8, none, .op .quiet (oMv (.val (.int .i64 0))), []⟩,
     ⟨1, some 9, none, .op .quiet (oMv (.val (.bool false))), []⟩])
   (.seq
    (.drawn [⟨0, some 12, none, .op .quiet (oMv (.tmp 0)), []⟩,
      ⟨1, some 13, none, .op .quiet (oMv (.tmp 1)), []⟩,
      ⟨2, some 14, none, .op .quiet (oMv (.tmp 0)), []⟩,
      ⟨3, some 15, none, .op .quiet (oMv (.tmp 3)), []⟩,
      ⟨4, some 16, none, .op .quiet (oMv (.tmp 0)), []⟩,
      ⟨5, some 17, none, .op .quiet (oMv (.tmp 3)), []⟩,
      ⟨6, some 18, none, .op .quiet (oIdxS 1 (.tmp 16) (.tmp 17)), []⟩,
      ⟨7, some 19, none, .op .reads (oLoad (.tmp 18)), []⟩,
      ⟨8, some 20, none, .op .quiet (oMv (.tmp 0)), []⟩,
      ⟨9, some 21, none, .op .quiet (oMv (.tmp 1)), []⟩,
      ⟨10, some 22, none, .op .quiet (oIdxS 1 (.tmp 20) (.tmp 21)), []⟩,
      ⟨11, some 23, none, .op .reads (oLoad (.tmp 22)), []⟩,
      ⟨12, some 24, none, .op .quiet (oIdxS 1 (.tmp 12) (.tmp 13)), []⟩,
      ⟨13, none, none, .op .hard (oStore 1 (.tmp 24) (.tmp 19)), []⟩,
      ⟨14, some 25, none, .op .quiet (oIdxS 1 (.tmp 14) (.tmp 15)), []⟩,
      ⟨15, none, none, .op .hard (oStore 1 (.tmp 25) (.tmp 23)), []⟩])
    (.seq
     (.ops [⟨0, some 26, none, .op .quiet (oMv (.tmp 1)), []⟩,
       ⟨1, some 27, none, .op .quiet (oArith .add (.tmp 26) (.val (.int .i64 1))), []⟩,
       ⟨2, some 28, none, .op .quiet (oMv (.tmp 2)), []⟩,
       ⟨3, some 29, none, .op .quiet (oArith .sub (.tmp 28) (.val (.int .i64 1))), []⟩,
       ⟨4, some 10, none, .op .quiet (oMv (.tmp 27)), []⟩,
       ⟨5, some 11, none, .op .quiet (oMv (.tmp 29)), []⟩])
     (.seq
      (.block 0
       (.loop
        (.seq
         (.seq
          (.drawn [⟨0, some 30, none, .op .quiet (oMv (.tmp 10)), []⟩,
            ⟨1, some 31, none, .op .quiet (oMv (.tmp 11)), []⟩,
            ⟨2, some 32, none, .op .quiet (oArith .leq (.tmp 30) (.tmp 31)), []⟩,
            ⟨3, some 33, none, .op .quiet (oMv (.tmp 32)), []⟩,
            ⟨4, some 34, some (33, true), .op .quiet (oMv (.tmp 0)), []⟩,
            ⟨5, some 35, some (33, true), .op .quiet (oMv (.tmp 10)), []⟩,
            ⟨6, some 36, some (33, true), .op .quiet (oIdxS 1 (.tmp 34) (.tmp 35)), []⟩,
            ⟨7, some 37, some (33, true), .op .reads (oLoad (.tmp 36)), []⟩,
            ⟨8, some 38, some (33, true), .op .quiet (oMv (.tmp 0)), []⟩,
            ⟨9, some 39, some (33, true), .op .quiet (oMv (.tmp 1)), []⟩,
            ⟨10, some 40, some (33, true), .op .quiet (oIdxS 1 (.tmp 38) (.tmp 39)), []⟩,
            ⟨11, some 41, some (33, true), .op .reads (oLoad (.tmp 40)), []⟩,
            ⟨12, some 42, some (33, true), .callF 357 [(.tmp 37), (.tmp 41)], []⟩,
            ⟨13, some 43, none, .op .quiet (oPick (.tmp 33) (.tmp 42) (.val (.bool false))), []⟩])
          (.cond (.tmp 43)
           (.skip)
           (.exit 0)))
         (.block 1
          (.ops [⟨0, some 44, none, .op .quiet (oMv (.tmp 10)), []⟩,
            ⟨1, some 45, none, .op .quiet (oArith .add (.tmp 44) (.val (.int .i64 1))), []⟩,
            ⟨2, some 10, none, .op .quiet (oMv (.tmp 45)), []⟩])))))
      (.seq
       (.block 2
        (.loop
         (.seq
          (.seq
           (.drawn [⟨0, some 46, none, .op .quiet (oMv (.tmp 10)), []⟩,
             ⟨1, some 47, none, .op .quiet (oMv (.tmp 11)), []⟩,
             ⟨2, some 48, none, .op .quiet (oArith .leq (.tmp 46) (.tmp 47)), []⟩,
             ⟨3, some 49, none, .op .quiet (oMv (.tmp 48)), []⟩,
             ⟨4, some 50, some (49, true), .op .quiet (oMv (.tmp 0)), []⟩,
             ⟨5, some 51, some (49, true), .op .quiet (oMv (.tmp 11)), []⟩,
             ⟨6, some 52, some (49, true), .op .quiet (oIdxS 1 (.tmp 50) (.tmp 51)), []⟩,
             ⟨7, some 53, some (49, true), .op .reads (oLoad (.tmp 52)), []⟩,
             ⟨8, some 54, some (49, true), .op .quiet (oMv (.tmp 0)), []⟩,
             ⟨9, some 55, some (49, true), .op .quiet (oMv (.tmp 1)), []⟩,
             ⟨10, some 56, some (49, true), .op .quiet (oIdxS 1 (.tmp 54) (.tmp 55)), []⟩,
             ⟨11, some 57, some (49, true), .op .reads (oLoad (.tmp 56)), []⟩,
             ⟨12, some 58, some (49, true), .callF 357 [(.tmp 53), (.tmp 57)], []⟩,
             ⟨13, some 59, some (49, true), .op .quiet (oNot (.tmp 58)), []⟩,
             ⟨14, some 60, none, .op .quiet (oPick (.tmp 49) (.tmp 59) (.val (.bool false))), []⟩])
           (.cond (.tmp 60)
            (.skip)
            (.exit 2)))
          (.block 3
           (.ops [⟨0, some 61, none, .op .quiet (oMv (.tmp 11)), []⟩,
             ⟨1, some 62, none, .op .quiet (oArith .sub (.tmp 61) (.val (.int .i64 1))), []⟩,
             ⟨2, some 11, none, .op .quiet (oMv (.tmp 62)), []⟩])))))
       (.seq
        (.seq
         (.ops [⟨0, some 63, none, .op .quiet (oMv (.tmp 10)), []⟩,
           ⟨1, some 64, none, .op .quiet (oMv (.tmp 11)), []⟩,
           ⟨2, some 65, none, .op .quiet (oArith .gtr (.tmp 63) (.tmp 64)), []⟩])
         (.cond (.tmp 65)
          (.seq
           (.drawn [⟨0, some 66, none, .op .quiet (oMv (.tmp 0)), []⟩,
             ⟨1, some 67, none, .op .quiet (oMv (.tmp 11)), []⟩,
             ⟨2, some 68, none, .op .quiet (oMv (.tmp 0)), []⟩,
             ⟨3, some 69, none, .op .quiet (oMv (.tmp 1)), []⟩,
             ⟨4, some 70, none, .op .quiet (oMv (.tmp 0)), []⟩,
             ⟨5, some 71, none, .op .quiet (oMv (.tmp 1)), []⟩,
             ⟨6, some 72, none, .op .quiet (oIdxS 1 (.tmp 70) (.tmp 71)), []⟩,
             ⟨7, some 73, none, .op .reads (oLoad (.tmp 72)), []⟩,
             ⟨8, some 74, none, .op .quiet (oMv (.tmp 0)), []⟩,
             ⟨9, some 75, none, .op .quiet (oMv (.tmp 11)), []⟩,
             ⟨10, some 76, none, .op .quiet (oIdxS 1 (.tmp 74) (.tmp 75)), []⟩,
             ⟨11, some 77, none, .op .reads (oLoad (.tmp 76)), []⟩,
             ⟨12, some 78, none, .op .quiet (oIdxS 1 (.tmp 66) (.tmp 67)), []⟩,
             ⟨13, none, none, .op .hard (oStore 1 (.tmp 78) (.tmp 73)), []⟩,
             ⟨14, some 79, none, .op .quiet (oIdxS 1 (.tmp 68) (.tmp 69)), []⟩,
             ⟨15, none, none, .op .hard (oStore 1 (.tmp 79) (.tmp 77)), []⟩])
           (.seq
            (.ops [⟨0, some 80, none, .op .quiet (oMv (.tmp 11)), []⟩,
              ⟨1, some 8, none, .op .quiet (oMv (.tmp 80)), []⟩,
              ⟨2, some 9, none, .op .quiet (oMv (.val (.bool true))), []⟩])
            (.ret)))
          (.skip)))
        (.seq
         (.drawn [⟨0, some 81, none, .op .quiet (oMv (.tmp 0)), []⟩,
           ⟨1, some 82, none, .op .quiet (oMv (.tmp 10)), []⟩,
           ⟨2, some 83, none, .op .quiet (oMv (.tmp 0)), []⟩,
           ⟨3, some 84, none, .op .quiet (oMv (.tmp 11)), []⟩,
           ⟨4, some 85, none, .op .quiet (oMv (.tmp 0)), []⟩,
           ⟨5, some 86, none, .op .quiet (oMv (.tmp 11)), []⟩,
           ⟨6, some 87, none, .op .quiet (oIdxS 1 (.tmp 85) (.tmp 86)), []⟩,
           ⟨7, some 88, none, .op .reads (oLoad (.tmp 87)), []⟩,
           ⟨8, some 89, none, .op .quiet (oMv (.tmp 0)), []⟩,
           ⟨9, some 90, none, .op .quiet (oMv (.tmp 10)), []⟩,
           ⟨10, some 91, none, .op .quiet (oIdxS 1 (.tmp 89) (.tmp 90)), []⟩,
           ⟨11, some 92, none, .op .reads (oLoad (.tmp 91)), []⟩,
           ⟨12, some 93, none, .op .quiet (oIdxS 1 (.tmp 81) (.tmp 82)), []⟩,
           ⟨13, none, none, .op .hard (oStore 1 (.tmp 93) (.tmp 88)), []⟩,
           ⟨14, some 94, none, .op .quiet (oIdxS 1 (.tmp 83) (.tmp 84)), []⟩,
           ⟨15, none, none, .op .hard (oStore 1 (.tmp 94) (.tmp 92)), []⟩])
         (.seq
          (.ops [⟨0, some 95, none, .op .quiet (oMv (.tmp 10)), []⟩,
            ⟨1, some 96, none, .op .quiet (oArith .add (.tmp 95) (.val (.int .i64 1))), []⟩,
            ⟨2, some 10, none, .op .quiet (oMv (.tmp 96)), []⟩])
          (.seq
           (.ops [⟨0, some 97, none, .op .quiet (oMv (.tmp 11)), []⟩,
             ⟨1, some 98, none, .op .quiet (oArith .sub (.tmp 97) (.val (.int .i64 1))), []⟩,
             ⟨2, some 11, none, .op .quiet (oMv (.tmp 98)), []⟩])
           (.seq
            (.block 4
             (.loop
              (.block 5
               (.seq
                (.block 6
                 (.loop
                  (.seq
                   (.seq
                    (.drawn [⟨0, some 99, none, .op .quiet (oMv (.tmp 10)), []⟩,
                      ⟨1, some 100, none, .op .quiet (oMv (.tmp 11)), []⟩,
                      ⟨2, some 101, none, .op .quiet (oArith .leq (.tmp 99) (.tmp 100)), []⟩,
                      ⟨3, some 102, none, .op .quiet (oMv (.tmp 101)), []⟩,
                      ⟨4, some 103, some (102, true), .op .quiet (oMv (.tmp 0)), []⟩,
                      ⟨5, some 104, some (102, true), .op .quiet (oMv (.tmp 10)), []⟩,
                      ⟨6, some 105, some (102, true), .op .quiet (oIdxS 1 (.tmp 103) (.tmp 104)), []⟩,
                      ⟨7, some 106, some (102, true), .op .reads (oLoad (.tmp 105)), []⟩,
                      ⟨8, some 107, some (102, true), .op .quiet (oMv (.tmp 0)), []⟩,
                      ⟨9, some 108, some (102, true), .op .quiet (oMv (.tmp 1)), []⟩,
                      ⟨10, some 109, some (102, true), .op .quiet (oIdxS 1 (.tmp 107) (.tmp 108)), []⟩,
                      ⟨11, some 110, some (102, true), .op .reads (oLoad (.tmp 109)), []⟩,
                      ⟨12, some 111, some (102, true), .callF 357 [(.tmp 106), (.tmp 110)], []⟩,
                      ⟨13, some 112, none, .op .quiet (oPick (.tmp 102) (.tmp 111) (.val (.bool false))), []⟩])
                    (.cond (.tmp 112)
                     (.skip)
                     (.exit 6)))
                   (.block 7
                    (.ops [⟨0, some 113, none, .op .quiet (oMv (.tmp 10)), []⟩,
                      ⟨1, some 114, none, .op .quiet (oArith .add (.tmp 113) (.val (.int .i64 1))), []⟩,
                      ⟨2, some 10, none, .op .quiet (oMv (.tmp 114)), []⟩])))))
                (.seq
                 (.block 8
                  (.loop
                   (.seq
                    (.seq
                     (.drawn [⟨0, some 115, none, .op .quiet (oMv (.tmp 10)), []⟩,
                       ⟨1, some 116, none, .op .quiet (oMv (.tmp 11)), []⟩,
                       ⟨2, some 117, none, .op .quiet (oArith .leq (.tmp 115) (.tmp 116)), []⟩,
                       ⟨3, some 118, none, .op .quiet (oMv (.tmp 117)), []⟩,
                       ⟨4, some 119, some (118, true), .op .quiet (oMv (.tmp 0)), []⟩,
                       ⟨5, some 120, some (118, true), .op .quiet (oMv (.tmp 11)), []⟩,
                       ⟨6, some 121, some (118, true), .op .quiet (oIdxS 1 (.tmp 119) (.tmp 120)), []⟩,
                       ⟨7, some 122, some (118, true), .op .reads (oLoad (.tmp 121)), []⟩,
                       ⟨8, some 123, some (118, true), .op .quiet (oMv (.tmp 0)), []⟩,
                       ⟨9, some 124, some (118, true), .op .quiet (oMv (.tmp 1)), []⟩,
                       ⟨10, some 125, some (118, true), .op .quiet (oIdxS 1 (.tmp 123) (.tmp 124)), []⟩,
                       ⟨11, some 126, some (118, true), .op .reads (oLoad (.tmp 125)), []⟩,
                       ⟨12, some 127, some (118, true), .callF 357 [(.tmp 122), (.tmp 126)], []⟩,
                       ⟨13, some 128, some (118, true), .op .quiet (oNot (.tmp 127)), []⟩,
                       ⟨14, some 129, none, .op .quiet (oPick (.tmp 118) (.tmp 128) (.val (.bool false))), []⟩])
                     (.cond (.tmp 129)
                      (.skip)
                      (.exit 8)))
                    (.block 9
                     (.ops [⟨0, some 130, none, .op .quiet (oMv (.tmp 11)), []⟩,
                       ⟨1, some 131, none, .op .quiet (oArith .sub (.tmp 130) (.val (.int .i64 1))), []⟩,
                       ⟨2, some 11, none, .op .quiet (oMv (.tmp 131)), []⟩])))))
                 (.seq
                  (.seq
                   (.ops [⟨0, some 132, none, .op .quiet (oMv (.tmp 10)), []⟩,
                     ⟨1, some 133, none, .op .quiet (oMv (.tmp 11)), []⟩,
                     ⟨2, some 134, none, .op .quiet (oArith .gtr (.tmp 132) (.tmp 133)), []⟩])
                   (.cond (.tmp 134)
                    (.exit 4)
                    (.skip)))
                  (.seq
                   (.drawn [⟨0, some 135, none, .op .quiet (oMv (.tmp 0)), []⟩,
                     ⟨1, some 136, none, .op .quiet (oMv (.tmp 10)), []⟩,
                     ⟨2, some 137, none, .op .quiet (oMv (.tmp 0)), []⟩,
                     ⟨3, some 138, none, .op .quiet (oMv (.tmp 11)), []⟩,
                     ⟨4, some 139, none, .op .quiet (oMv (.tmp 0)), []⟩,
                     ⟨5, some 140, none, .op .quiet (oMv (.tmp 11)), []⟩,
                     ⟨6, some 141, none, .op .quiet (oIdxS 1 (.tmp 139) (.tmp 140)), []⟩,
                     ⟨7, some 142, none, .op .reads (oLoad (.tmp 141)), []⟩,
                     ⟨8, some 143, none, .op .quiet (oMv (.tmp 0)), []⟩,
                     ⟨9, some 144, none, .op .quiet (oMv (.tmp 10)), []⟩,
                     ⟨10, some 145, none, .op .quiet (oIdxS 1 (.tmp 143) (.tmp 144)), []⟩,
                     ⟨11, some 146, none, .op .reads (oLoad (.tmp 145)), []⟩,
                     ⟨12, some 147, none, .op .quiet (oIdxS 1 (.tmp 135) (.tmp 136)), []⟩,
                     ⟨13, none, none, .op .hard (oStore 1 (.tmp 147) (.tmp 142)), []⟩,
                     ⟨14, some 148, none, .op .quiet (oIdxS 1 (.tmp 137) (.tmp 138)), []⟩,
                     ⟨15, none, none, .op .hard (oStore 1 (.tmp 148) (.tmp 146)), []⟩])
                   (.seq
                    (.ops [⟨0, some 149, none, .op .quiet (oMv (.tmp 10)), []⟩,
                      ⟨1, some 150, none, .op .quiet (oArith .add (.tmp 149) (.val (.int .i64 1))), []⟩,
                      ⟨2, some 10, none, .op .quiet (oMv (.tmp 150)), []⟩])
                    (.ops [⟨0, some 151, none, .op .quiet (oMv (.tmp 11)), []⟩,
                      ⟨1, some 152, none, .op .quiet (oArith .sub (.tmp 151) (.val (.int .i64 1))), []⟩,
                      ⟨2, some 11, none, .op .quiet (oMv (.tmp 152)), []⟩])))))))))
            (.seq
             (.drawn [⟨0, some 153, none, .op .quiet (oMv (.tmp 0)), []⟩,
               ⟨1, some 154, none, .op .quiet (oMv (.tmp 11)), []⟩,
               ⟨2, some 155, none, .op .quiet (oMv (.tmp 0)), []⟩,
               ⟨3, some 156, none, .op .quiet (oMv (.tmp 1)), []⟩,
               ⟨4, some 157, none, .op .quiet (oMv (.tmp 0)), []⟩,
               ⟨5, some 158, none, .op .quiet (oMv (.tmp 1)), []⟩,
               ⟨6, some 159, none, .op .quiet (oIdxS 1 (.tmp 157) (.tmp 158)), []⟩,
               ⟨7, some 160, none, .op .reads (oLoad (.tmp 159)), []⟩,
               ⟨8, some 161, none, .op .quiet (oMv (.tmp 0)), []⟩,
               ⟨9, some 162, none, .op .quiet (oMv (.tmp 11)), []⟩,
               ⟨10, some 163, none, .op .quiet (oIdxS 1 (.tmp 161) (.tmp 162)), []⟩,
               ⟨11, some 164, none, .op .reads (oLoad (.tmp 163)), []⟩,
               ⟨12, some 165, none, .op .quiet (oIdxS 1 (.tmp 153) (.tmp 154)), []⟩,
               ⟨13, none, none, .op .hard (oStore 1 (.tmp 165) (.tmp 160)), []⟩,
               ⟨14, some 166, none, .op .quiet (oIdxS 1 (.tmp 155) (.tmp 156)), []⟩,
               ⟨15, none, none, .op .hard (oStore 1 (.tmp 166) (.tmp 164)), []⟩])
             (.seq
              (.ops [⟨0, some 167, none, .op .quiet (oMv (.tmp 11)), []⟩,
                ⟨1, some 8, none, .op .quiet (oMv (.tmp 167)), []⟩,
                ⟨2, some 9, none, .op .quiet (oMv (.val (.bool false))), []⟩])
              (.ret)))))))))))))⟩
/-- slices.nextPowerOfTwo -/
noncomputable def a361 : AF := ⟨[.tmp 2],
 (.seq
   (.ops [⟨0, some 2, none, .op .quiet (oMv (.val (.int .u64 0))), []⟩])
   (.seq
    (.ops [⟨0, some 3, none, .op .quiet (oMv (.tmp 0)), []⟩,
      ⟨1, some 4, none, .op .quiet (oConv .u64 (.tmp 3)), []⟩,
      ⟨2, some 5, none, .callF 307 [(.tmp 4)], []⟩,
      ⟨3, some 6, none, .op .quiet (oShift .shl (.val (.int .u64 1)) (.tmp 5)), []⟩,
      ⟨4, some 2, none, .op .quiet (oMv (.tmp 6)), []⟩])
    (.ret)))⟩
/-- (*slices.xorshift).Next -/
noncomputable def a362 : AF := ⟨[.tmp 2],
 (.seq
   (.ops [⟨0, some 2, none, .op .quiet (oMv (.val (.int .u64 0))), []⟩])
   (.seq
    (.drawn [⟨0, some 3, none, .op .quiet (oMv (.tmp 0)), []⟩,
      ⟨1, some 4, none, .op .quiet (oNilCheck (.tmp 3)), []⟩,
      ⟨2, some 5, none, .op .reads (oLoad (.tmp 4)), []⟩,
      ⟨3, some 6, none, .op .quiet (oMv (.tmp 0)), []⟩,
      ⟨4, some 7, none, .op .quiet (oNilCheck (.tmp 6)), []⟩,
      ⟨5, some 8, none, .op .reads (oLoad (.tmp 7)), []⟩,
      ⟨6, some 9, none, .op .quiet (oShift .shl (.tmp 8) (.val (.int .u64 13))), []⟩,
      ⟨7, some 10, none, .op .quiet (oArith .xor (.tmp 5) (.tmp 9)), []⟩,
      ⟨8, some 11, none, .op .quiet (oNilCheck (.tmp 3)), []⟩,
      ⟨9, none, none, .op .hard (oStore 1 (.tmp 11) (.tmp 10)), []⟩])
    (.seq
     (.drawn [⟨0, some 12, none, .op .quiet (oMv (.tmp 0)), []⟩,
       ⟨1, some 13, none, .op .quiet (oNilCheck (.tmp 12)), []⟩,
       ⟨2, some 14, none, .op .reads (oLoad (.tmp 13)), []⟩,
       ⟨3, some 15, none, .op .quiet (oMv (.tmp 0)), []⟩,
       ⟨4, some 16, none, .op .quiet (oNilCheck (.tmp 15)), []⟩,
       ⟨5, some 17, none, .op .reads (oLoad (.tmp 16)), []⟩,
       ⟨6, some 18, none, .op .quiet (oShift .shr (.tmp 17) (.val (.int .u64 7))), []⟩,
       ⟨7, some 19, none, .op .quiet (oArith .xor (.tmp 14) (.tmp 18)), []⟩,
       ⟨8, some 20, none, .op .quiet (oNilCheck (.tmp 12)), []⟩,
       ⟨9, none, none, .op .hard (oStore 1 (.tmp 20) (.tmp 19)), []⟩])
     (.seq
      (.drawn [⟨0, some 21, none, .op .quiet (oMv (.tmp 0)), []⟩,
        ⟨1, some 22, none, .op .quiet (oNilCheck (.tmp 21)), []⟩,
        ⟨2, some 23, none, .op .reads (oLoad (.tmp 22)), []⟩,
        ⟨3, some 24, none, .op .quiet (oMv (.tmp 0)), []⟩,
        ⟨4, some 25, none, .op .quiet (oNilCheck (.tmp 24)), []⟩,
        ⟨5, some 26, none, .op .reads (oLoad (.tmp 25)), []⟩,
        ⟨6, some 27, none, .op .quiet (oShift .shl (.tmp 26) (.val (.int .u64 17))), []⟩,
        ⟨7, some 28, none, .op .quiet (oArith .xor (.tmp 23) (.tmp 27)), []⟩,
        ⟨8, some 29, none, .op .quiet (oNilCheck (.tmp 21)), []⟩,
        ⟨9, none, none, .op .hard (oStore 1 (.tmp 29) (.tmp 28)), []⟩])
      (.seq
       (.ops [⟨0, some 30, none, .op .quiet (oMv (.tmp 0)), []⟩,
         ⟨1, some 31, none, .op .quiet (oNilCheck (.tmp 30)), []⟩,
         ⟨2, some 32, none, .op .reads (oLoad (.tmp 31)), []⟩,
         ⟨3, some 2, none, .op .quiet (oMv (.tmp 32)), []⟩])
       (.ret))))))⟩
/-- slices.insertionSortCmpFunc[int] -/
noncomputable def a366 : AF := ⟨[],
 (.seq
   (.ops [⟨0, some 10, none, .op .quiet (oMv (.tmp 1)), []⟩,
     ⟨1, some 11, none, .op .quiet (oArith .add (.tmp 10) (.val (.int .i64 1))), []⟩,
     ⟨2, some 8, none, .op .quiet (oMv (.tmp 11)), []⟩])
   (.block 0
    (.loop
     (.seq
      (.seq
       (.ops [⟨0, some 12, none, .op .quiet (oMv (.tmp 8)), []⟩,
         ⟨1, some 13, none, .op .quiet (oMv (.tmp 2)), []⟩,
         ⟨2, some 14, none, .op .quiet (oArith .lss (.tmp 12) (.tmp 13)), []⟩])
       (.cond (.tmp 14)
        (.skip)
        (.exit 0)))
      (.seq
       (.block 1
        (.seq
         (.ops [⟨0, some 17, none, .op .quiet (oMv (.tmp 8)), []⟩,
           ⟨1, some 9, none, .op .quiet (oMv (.tmp 17)), []⟩])
         (.block 2
          (.loop
           (.seq
            (.seq
             (.drawn [⟨0, some 18, none, .op .quiet (oMv (.tmp 9)), []⟩,
               ⟨1, some 19, none, .op .quiet (oMv (.tmp 1)), []⟩,
               ⟨2, some 20, none, .op .quiet (oArith .gtr (.tmp 18) (.tmp 19)), []⟩,
               ⟨3, some 21, none, .op .quiet (oMv (.tmp 20)), []⟩,
               ⟨4, some 22, some (21, true), .op .quiet (oMv (.tmp 3)), []⟩,
               ⟨5, some 23, some (21, true), .op .quiet (oMv (.tmp 0)), []⟩,
               ⟨6, some 24, some (21, true), .op .quiet (oMv (.tmp 9)), []⟩,
               ⟨7, some 25, some (21, true), .op .quiet (oIdxS 1 (.tmp 23) (.tmp 24)), []⟩,
               ⟨8, some 26, some (21, true), .op .reads (oLoad (.tmp 25)), []⟩,
               ⟨9, some 27, some (21, true), .op .quiet (oMv (.tmp 0)), []⟩,
               ⟨10, some 28, some (21, true), .op .quiet (oMv (.tmp 9)), []⟩,
               ⟨11, some 29, some (21, true), .op .quiet (oArith .sub (.tmp 28) (.val (.int .i64 1))), []⟩,
               ⟨12, some 30, some (21, true), .op .quiet (oIdxS 1 (.tmp 27) (.tmp 29)), []⟩,
               ⟨13, some 31, some (21, true), .op .reads (oLoad (.tmp 30)), []⟩,
               ⟨14, some 32, some (21, true), .call (.tmp 22) [(.tmp 26), (.tmp 31)], []⟩,
               ⟨15, some 33, some (21, true), .op .quiet (oArith .lss (.tmp 32) (.val (.int .i64 0))), []⟩,
               ⟨16, some 34, none, .op .quiet (oPick (.tmp 21) (.tmp 33) (.val (.bool false))), []⟩])
             (.cond (.tmp 34)
              (.skip)
              (.exit 2)))
            (.seq
             (.block 3
              (.drawn [⟨0, some 37, none, .op .quiet (oMv (.tmp 0)), []⟩,
                ⟨1, some 38, none, .op .quiet (oMv (.tmp 9)), []⟩,
                ⟨2, some 39, none, .op .quiet (oMv (.tmp 0)), []⟩,
                ⟨3, some 40, none, .op .quiet (oMv (.tmp 9)), []⟩,
                ⟨4, some 41, none, .op .quiet (oArith .sub (.tmp 40) (.val (.int .i64 1))), []⟩,
                ⟨5, some 42, none, .op .quiet (oMv (.tmp 0)), []⟩,
                ⟨6, some 43, none, .op .quiet (oMv (.tmp 9)), []⟩,
                ⟨7, some 44, none, .op .quiet (oArith .sub (.tmp 43) (.val (.int .i64 1))), []⟩,
                ⟨8, some 45, none, .op .quiet (oIdxS 1 (.tmp 42) (.tmp 44)), []⟩,
                ⟨9, some 46, none, .op .reads (oLoad (.tmp 45)), []⟩,
                ⟨10, some 47, none, .op .quiet (oMv (.tmp 0)), []⟩,
                ⟨11, some 48, none, .op .quiet (oMv (.tmp 9)), []⟩,
                ⟨12, some 49, none, .op .quiet (oIdxS 1 (.tmp 47) (.tmp 48)), []⟩,
                ⟨13, some 50, none, .op .reads (oLoad (.tmp 49)), []⟩,
                ⟨14, some 51, none, .op .quiet (oIdxS 1 (.tmp 37) (.tmp 38)), []⟩,
                ⟨15, none, none, .op .hard (oStore 1 (.tmp 51) (.tmp 46)), []⟩,
                ⟨16, some 52, none, .op .quiet (oIdxS 1 (.tmp 39) (.tmp 41)), []⟩,
                ⟨17, none, none, .op .hard (oStore 1 (.tmp 52) (.tmp 50)), []⟩]))
             (.ops [⟨0, some 35, none, .op .quiet (oMv (.tmp 9)), []⟩,
               ⟨1, some 36, none, .op .quiet (oArith .sub (.tmp 35) (.val (.int .i64 1))), []⟩,
               ⟨2, some 9, none, .op .quiet (oMv (.tmp 36)), []⟩])))))))
       (.ops [⟨0, some 15, none, .op .quiet (oMv (.tmp 8)), []⟩,
         ⟨1, some 16, none, .op .quiet (oArith .add (.tmp 15) (.val (.int .i64 1))), []⟩,
         ⟨2, some 8, none, .op .quiet (oMv (.tmp 16)), []⟩]))))))⟩
/-- slices.heapSortCmpFunc[int] -/
noncomputable def a367 : AF := ⟨[],
 (.seq
   (.ops [⟨0, some 13, none, .op .quiet (oMv (.tmp 1)), []⟩,
     ⟨1, some 8, none, .op .quiet (oMv (.tmp 13)), []⟩])
   (.seq
    (.ops [⟨0, some 9, none, .op .quiet (oMv (.val (.int .i64 0))), []⟩])
    (.seq
     (.ops [⟨0, some 14, none, .op .quiet (oMv (.tmp 2)), []⟩,
       ⟨1, some 15, none, .op .quiet (oMv (.tmp 1)), []⟩,
       ⟨2, some 16, none, .op .quiet (oArith .sub (.tmp 14) (.tmp 15)), []⟩,
       ⟨3, some 10, none, .op .quiet (oMv (.tmp 16)), []⟩])
     (.seq
      (.seq
       (.ops [⟨0, some 17, none, .op .quiet (oMv (.tmp 10)), []⟩,
         ⟨1, some 18, none, .op .quiet (oArith .sub (.tmp 17) (.val (.int .i64 1))), []⟩,
         ⟨2, some 19, none, .op .quiet (oArith .quo (.tmp 18) (.val (.int .i64 2))), []⟩,
         ⟨3, some 11, none, .op .quiet (oMv (.tmp 19)), []⟩])
       (.block 0
        (.loop
         (.seq
          (.seq
           (.ops [⟨0, some 20, none, .op .quiet (oMv (.tmp 11)), []⟩,
             ⟨1, some 21, none, .op .quiet (oArith .geq (.tmp 20) (.val (.int .i64 0))), []⟩])
           (.cond (.tmp 21)
            (.skip)
            (.exit 0)))
          (.seq
           (.block 1
            (.ops [⟨0, some 24, none, .op .quiet (oMv (.tmp 0)), []⟩,
              ⟨1, some 25, none, .op .quiet (oMv (.tmp 11)), []⟩,
              ⟨2, some 26, none, .op .quiet (oMv (.tmp 10)), []⟩,
              ⟨3, some 27, none, .op .quiet (oMv (.tmp 8)), []⟩,
              ⟨4, some 28, none, .op .quiet (oMv (.tmp 3)), []⟩,
              ⟨5, some 29, none, .callF 378 [(.tmp 24), (.tmp 25), (.tmp 26), (.tmp 27), (.tmp 28)], []⟩]))
           (.ops [⟨0, some 22, none, .op .quiet (oMv (.tmp 11)), []⟩,
             ⟨1, some 23, none, .op .quiet (oArith .sub (.tmp 22) (.val (.int .i64 1))), []⟩,
             ⟨2, some 11, none, .op .quiet (oMv (.tmp 23)), []⟩]))))))
      (.seq
       (.ops [⟨0, some 30, none, .op .quiet (oMv (.tmp 10)), []⟩,
         ⟨1, some 31, none, .op .quiet (oArith .sub (.tmp 30) (.val (.int .i64 1))), []⟩,
         ⟨2, some 12, none, .op .quiet (oMv (.tmp 31)), []⟩])
       (.block 2
        (.loop
         (.seq
          (.seq
           (.ops [⟨0, some 32, none, .op .quiet (oMv (.tmp 12)), []⟩,
             ⟨1, some 33, none, .op .quiet (oArith .geq (.tmp 32) (.val (.int .i64 0))), []⟩])
           (.cond (.tmp 33)
            (.skip)
            (.exit 2)))
          (.seq
           (.block 3
            (.seq
             (.drawn [⟨0, some 36, none, .op .quiet (oMv (.tmp 0)), []⟩,
               ⟨1, some 37, none, .op .quiet (oMv (.tmp 8)), []⟩,
               ⟨2, some 38, none, .op .quiet (oMv (.tmp 0)), []⟩,
               ⟨3, some 39, none, .op .quiet (oMv (.tmp 8)), []⟩,
               ⟨4, some 40, none, .op .quiet (oMv (.tmp 12)), []⟩,
               ⟨5, some 41, none, .op .quiet (oArith .add (.tmp 39) (.tmp 40)), []⟩,
               ⟨6, some 42, none, .op .quiet (oMv (.tmp 0)), []⟩,
               ⟨7, some 43, none, .op .quiet (oMv (.tmp 8)), []⟩,
               ⟨8, some 44, none, .op .quiet (oMv (.tmp 12)), []⟩,
               ⟨9, some 45, none, .op .quiet (oArith .add (.tmp 43) (.tmp 44)), []⟩,
               ⟨10, some 46, none, .op .quiet (oIdxS 1 (.tmp 42) (.tmp 45)), []⟩,
               ⟨11, some 47, none, .op .reads (oLoad (.tmp 46)), []⟩,
               ⟨12, some 48, none, .op .quiet (oMv (.tmp 0)), []⟩,
               ⟨13, some 49, none, .op .quiet (oMv (.tmp 8)), []⟩,
               ⟨14, some 50, none, .op .quiet (oIdxS 1 (.tmp 48) (.tmp 49)), []⟩,
               ⟨15, some 51, none, .op .reads (oLoad (.tmp 50)), []⟩,
               ⟨16, some 52, none, .op .quiet (oIdxS 1 (.tmp 36) (.tmp 37)), []⟩,
               ⟨17, none, none, .op .hard (oStore 1 (.tmp 52) (.tmp 47)), []⟩,
               ⟨18, some 53, none, .op .quiet (oIdxS 1 (.tmp 38) (.tmp 41)), []⟩,
               ⟨19, none, none, .op .hard (oStore 1 (.tmp 53) (.tmp 51)), []⟩])
             (.ops [⟨0, some 54, none, .op .quiet (oMv (.tmp 0)), []⟩,
               ⟨1, some 55, none, .op .quiet (oMv (.tmp 9)), []⟩,
               ⟨2, some 56, none, .op .quiet (oMv (.tmp 12)), []⟩,
               ⟨3, some 57, none, .op .quiet (oMv (.tmp 8)), []⟩,
               ⟨4, some 58, none, .op .quiet (oMv (.tmp 3)), []⟩,
               ⟨5, some 59, none, .callF 378 [(.tmp 54), (.tmp 55), (.tmp 56), (.tmp 57), (.tmp 58)], []⟩])))
           (.ops [⟨0, some 34, none, .op .quiet (oMv (.tmp 12)), []⟩,
             ⟨1, some 35, none, .op .quiet (oArith .sub (.tmp 34) (.val (.int .i64 1))), []⟩,
             ⟨2, some 12, none, .op .quiet (oMv (.tmp 35)), []⟩]))))))))))⟩
/-- slices.breakPatternsCmpFunc[int] -/
noncomputable def a368 : AF := ⟨[],
 (.seq
   (.ops [⟨0, some 13, none, .op .quiet (oMv (.tmp 2)), []⟩,
     ⟨1, some 14, none, .op .quiet (oMv (.tmp 1)), []⟩,
     ⟨2, some 15, none, .op .quiet (oArith .sub (.tmp 13) (.tmp 14)), []⟩,
     ⟨3, some 8, none, .op .quiet (oMv (.tmp 15)), []⟩])
   (.seq
    (.ops [⟨0, some 16, none, .op .quiet (oMv (.tmp 8)), []⟩,
      ⟨1, some 17, none, .op .quiet (oArith .geq (.tmp 16) (.val (.int .i64 8))), []⟩])
    (.cond (.tmp 17)
     (.seq
      (.ops [⟨0, some 18, none, .op .quiet (oMv (.tmp 8)), []⟩,
        ⟨1, some 19, none, .op .quiet (oConv .u64 (.tmp 18)), []⟩,
        ⟨2, some 9, none, .op .quiet (oAlloc [(.int .u64 0)]), []⟩,
        ⟨3, none, none, .op .hard (oStore 1 (.tmp 9) (.tmp 19)), []⟩])
      (.seq
       (.ops [⟨0, some 20, none, .op .quiet (oMv (.tmp 8)), []⟩,
         ⟨1, some 21, none, .callF 361 [(.tmp 20)], []⟩,
         ⟨2, some 10, none, .op .quiet (oMv (.tmp 21)), []⟩])
       (.seq
        (.ops [⟨0, some 22, none, .op .quiet (oMv (.tmp 1)), []⟩,
          ⟨1, some 23, none, .op .quiet (oMv (.tmp 8)), []⟩,
          ⟨2, some 24, none, .op .quiet (oArith .quo (.tmp 23) (.val (.int .i64 4))), []⟩,
          ⟨3, some 25, none, .op .quiet (oArith .mul (.tmp 24) (.val (.int .i64 2))), []⟩,
          ⟨4, some 26, none, .op .quiet (oArith .add (.tmp 22) (.tmp 25)), []⟩,
          ⟨5, some 27, none, .op .quiet (oArith .sub (.tmp 26) (.val (.int .i64 1))), []⟩,
          ⟨6, some 11, none, .op .quiet (oMv (.tmp 27)), []⟩])
        (.block 0
         (.loop
          (.seq
           (.seq
            (.ops [⟨0, some 28, none, .op .quiet (oMv (.tmp 11)), []⟩,
              ⟨1, some 29, none, .op .quiet (oMv (.tmp 1)), []⟩,
              ⟨2, some 30, none, .op .quiet (oMv (.tmp 8)), []⟩,
              ⟨3, some 31, none, .op .quiet (oArith .quo (.tmp 30) (.val (.int .i64 4))), []⟩,
              ⟨4, some 32, none, .op .quiet (oArith .mul (.tmp 31) (.val (.int .i64 2))), []⟩,
              ⟨5, some 33, none, .op .quiet (oArith .add (.tmp 29) (.tmp 32)), []⟩,
              ⟨6, some 34, none, .op .quiet (oArith .add (.tmp 33) (.val (.int .i64 1))), []⟩,
              ⟨7, some 35, none, .op .quiet (oArith .leq (.tmp 28) (.tmp 34)), []⟩])
            (.cond (.tmp 35)
             (.skip)
             (.exit 0)))
           (.seq
            (.block 1
             (.seq
              (.ops [⟨0, some 38, none, .callF 362 [(.tmp 9)], []⟩,
                ⟨1, some 39, none, .op .quiet (oMv (.tmp 10)), []⟩,
                ⟨2, some 40, none, .op .quiet (oArith .sub (.tmp 39) (.val (.int .u64 1))), []⟩,
                ⟨3, some 41, none, .op .quiet (oArith .and (.tmp 38) (.tmp 40)), []⟩,
                ⟨4, some 42, none, .op .quiet (oConv .i64 (.tmp 41)), []⟩,
                ⟨5, some 12, none, .op .quiet (oMv (.tmp 42)), []⟩])
              (.seq
               (.seq
                (.ops [⟨0, some 43, none, .op .quiet (oMv (.tmp 12)), []⟩,
                  ⟨1, some 44, none, .op .quiet (oMv (.tmp 8)), []⟩,
                  ⟨2, some 45, none, .op .quiet (oArith .geq (.tmp 43) (.tmp 44)), []⟩])
                (.cond (.tmp 45)
                 (.ops [⟨0, some 46, none, .op .quiet (oMv (.tmp 12)), []⟩,
                   ⟨1, some 47, none, .op .quiet (oMv (.tmp 8)), []⟩,
                   ⟨2, some 48, none, .op .quiet (oArith .sub (.tmp 46) (.tmp 47)), []⟩,
                   ⟨3, some 12, none, .op .quiet (oMv (.tmp 48)), []⟩])
                 (.skip)))
               (.drawn [⟨0, some 49, none, .op .quiet (oMv (.tmp 0)), []⟩,
                 ⟨1, some 50, none, .op .quiet (oMv (.tmp 11)), []⟩,
                 ⟨2, some 51, none, .op .quiet (oMv (.tmp 0)), []⟩,
                 ⟨3, some 52, none, .op .quiet (oMv (.tmp 1)), []⟩,
                 ⟨4, some 53, none, .op .quiet (oMv (.tmp 12)), []⟩,
                 ⟨5, some 54, none, .op .quiet (oArith .add (.tmp 52) (.tmp 53)), []⟩,
                 ⟨6, some 55, none, .op .quiet (oMv (.tmp 0)), []⟩,
                 ⟨7, some 56, none, .op .quiet (oMv (.tmp 1)), []⟩,
                 ⟨8, some 57, none, .op .quiet (oMv (.tmp 12)), []⟩,
                 ⟨9, some 58, none, .op .quiet (oArith .add (.tmp 56) (.tmp 57)), []⟩,
                 ⟨10, some 59, none, .op .quiet (oIdxS 1 (.tmp 55) (.tmp 58)), []⟩,
                 ⟨11, some 60, none, .op .reads (oLoad (.tmp 59)), []⟩,
                 ⟨12, some 61, none, .op .quiet (oMv (.tmp 0)), []⟩,
                 ⟨13, some 62, none, .op .quiet (oMv (.tmp 11)), []⟩,
                 ⟨14, some 63, none, .op .quiet (oIdxS 1 (.tmp 61) (.tmp 62)), []⟩,
                 ⟨15, some 64, none, .op .reads (oLoad (.tmp 63)), []⟩,
                 ⟨16, some 65, none, .op .quiet (oIdxS 1 (.tmp 49) (.tmp 50)), []⟩,
                 ⟨17, none, none, .op .hard (oStore 1 (.tmp 65) (.tmp 60)), []⟩,
                 ⟨18, some 66, none, .op .quiet (oIdxS 1 (.tmp 51) (.tmp 54)), []⟩,
                 ⟨19, none, none, .op .hard (oStore 1 (.tmp 66) (.tmp 64)), []⟩]))))
            (.ops [⟨0, some 36, none, .op .quiet (oMv (.tmp 11)), []⟩,
              ⟨1, some 37, none, .op .quiet (oArith .add (.tmp 36) (.val (.int .i64 1))), []⟩,
              ⟨2, some 11, none, .op .quiet (oMv (.tmp 37)), []⟩]))))))))
     (.skip))))⟩
/-- slices.choosePivotCmpFunc[int] -/
noncomputable def a369 : AF := ⟨[.tmp 8, .tmp 9],
 (.seq
   (.ops [⟨0, some 8, none, .op .quiet (oMv (.val (.int .i64 0))), []⟩,
     ⟨1, some 9, none, .op .quiet (oMv (.val (.int .i64 0))), []⟩])
   (.seq
    (.ops [⟨0, some 15, none, .op .quiet (oMv (.tmp 2)), []⟩,
      ⟨1, some 16, none, .op .quiet (oMv (.tmp 1)), []⟩,
      ⟨2, some 17, none, .op .quiet (oArith .sub (.tmp 15) (.tmp 16)), []⟩,
      ⟨3, some 10, none, .op .quiet (oMv (.tmp 17)), []⟩])
    (.seq
     (.ops [⟨0, some 11, none, .op .quiet (oAlloc [(.int .i64 0)]), []⟩])
     (.seq
      (.ops [⟨0, some 18, none, .op .quiet (oMv (.tmp 1)), []⟩,
        ⟨1, some 19, none, .op .quiet (oMv (.tmp 10)), []⟩,
        ⟨2, some 20, none, .op .quiet (oArith .quo (.tmp 19) (.val (.int .i64 4))), []⟩,
        ⟨3, some 21, none, .op .quiet (oArith .mul (.tmp 20) (.val (.int .i64 1))), []⟩,
        ⟨4, some 22, none, .op .quiet (oArith .add (.tmp 18) (.tmp 21)), []⟩,
        ⟨5, some 12, none, .op .quiet (oMv (.tmp 22)), []⟩])
      (.seq
       (.ops [⟨0, some 23, none, .op .quiet (oMv (.tmp 1)), []⟩,
         ⟨1, some 24, none, .op .quiet (oMv (.tmp 10)), []⟩,
         ⟨2, some 25, none, .op .quiet (oArith .quo (.tmp 24) (.val (.int .i64 4))), []⟩,
         ⟨3, some 26, none, .op .quiet (oArith .mul (.tmp 25) (.val (.int .i64 2))), []⟩,
         ⟨4, some 27, none, .op .quiet (oArith .add (.tmp 23) (.tmp 26)), []⟩,
         ⟨5, some 13, none, .op .quiet (oMv (.tmp 27)), []⟩])
       (.seq
        (.ops [⟨0, some 28, none, .op .quiet (oMv (.tmp 1)), []⟩,
          ⟨1, some 29, none, .op .quiet (oMv (.tmp 10)), []⟩,
          ⟨2, some 30, none, .op .quiet (oArith .quo (.tmp 29) (.val (.int .i64 4))), []⟩,
          ⟨3, some 31, none, .op .quiet (oArith .mul (.tmp 30) (.val (.int .i64 3))), []⟩,
          ⟨4, some 32, none, .op .quiet (oArith .add (.tmp 28) (.tmp 31)), []⟩,
          ⟨5, some 14, none, .op .quiet (oMv (.tmp 32)), []⟩])
        (.seq
         (.seq
          (.ops [⟨0, some 33, none, .op .quiet (oMv (.tmp 10)), []⟩,
            ⟨1, some 34, none, .op .quiet (oArith .geq (.tmp 33) (.val (.int .i64 8))), []⟩])
          (.cond (.tmp 34)
           (.seq
            (.seq
             (.ops [⟨0, some 35, none, .op .quiet (oMv (.tmp 10)), []⟩,
               ⟨1, some 36, none, .op .quiet (oArith .geq (.tmp 35) (.val (.int .i64 50))), []⟩])
             (.cond (.tmp 36)
              (.seq
               (.ops [⟨0, some 37, none, .op .quiet (oMv (.tmp 0)), []⟩,
                 ⟨1, some 38, none, .op .quiet (oMv (.tmp 12)), []⟩,
                 ⟨2, some 39, none, .op .quiet (oMv (.tmp 3)), []⟩,
                 ⟨3, some 40, none, .callF 379 [(.tmp 37), (.tmp 38), (.tmp 11), (.tmp 39)], []⟩,
                 ⟨4, some 12, none, .op .quiet (oMv (.tmp 40)), []⟩])
               (.seq
                (.ops [⟨0, some 41, none, .op .quiet (oMv (.tmp 0)), []⟩,
                  ⟨1, some 42, none, .op .quiet (oMv (.tmp 13)), []⟩,
                  ⟨2, some 43, none, .op .quiet (oMv (.tmp 3)), []⟩,
                  ⟨3, some 44, none, .callF 379 [(.tmp 41), (.tmp 42), (.tmp 11), (.tmp 43)], []⟩,
                  ⟨4, some 13, none, .op .quiet (oMv (.tmp 44)), []⟩])
                (.ops [⟨0, some 45, none, .op .quiet (oMv (.tmp 0)), []⟩,
                  ⟨1, some 46, none, .op .quiet (oMv (.tmp 14)), []⟩,
                  ⟨2, some 47, none, .op .quiet (oMv (.tmp 3)), []⟩,
                  ⟨3, some 48, none, .callF 379 [(.tmp 45), (.tmp 46), (.tmp 11), (.tmp 47)], []⟩,
                  ⟨4, some 14, none, .op .quiet (oMv (.tmp 48)), []⟩])))
              (.skip)))
            (.ops [⟨0, some 49, none, .op .quiet (oMv (.tmp 0)), []⟩,
              ⟨1, some 50, none, .op .quiet (oMv (.tmp 12)), []⟩,
              ⟨2, some 51, none, .op .quiet (oMv (.tmp 13)), []⟩,
              ⟨3, some 52, none, .op .quiet (oMv (.tmp 14)), []⟩,
              ⟨4, some 53, none, .op .quiet (oMv (.tmp 3)), []⟩,
              ⟨5, some 54, none, .callF 380 [(.tmp 49), (.tmp 50), (.tmp 51), (.tmp 52), (.tmp 11), (.tmp 53)], []⟩,
              ⟨6, some 13, none, .op .quiet (oMv (.tmp 54)), []⟩]))
           (.skip)))
         (.seq
          (.ops [⟨0, some 55, none, .op .reads (oLoad (.tmp 11)), []⟩])
          (.block 0
           (.seq
            (.ops [⟨0, some 58, none, .op .quiet (oArith .eql (.tmp 55) (.val (.int .i64 0))), []⟩,
              ⟨1, some 57, none, .op .quiet (oMv (.tmp 58)), []⟩])
            (.cond (.tmp 57)
             (.seq
              (.ops [⟨0, some 59, none, .op .quiet (oMv (.tmp 13)), []⟩,
                ⟨1, some 8, none, .op .quiet (oMv (.tmp 59)), []⟩,
                ⟨2, some 9, none, .op .quiet (oMv (.val (.int .i64 1))), []⟩])
              (.ret))
             (.seq
              (.ops [⟨0, some 61, none, .op .quiet (oArith .eql (.tmp 55) (.val (.int .i64 12))), []⟩,
                ⟨1, some 60, none, .op .quiet (oMv (.tmp 61)), []⟩])
              (.cond (.tmp 60)
               (.seq
                (.ops [⟨0, some 62, none, .op .quiet (oMv (.tmp 13)), []⟩,
                  ⟨1, some 8, none, .op .quiet (oMv (.tmp 62)), []⟩,
                  ⟨2, some 9, none, .op .quiet (oMv (.val (.int .i64 2))), []⟩])
                (.ret))
               (.seq
                (.ops [⟨0, some 56, none, .op .quiet (oMv (.tmp 13)), []⟩,
                  ⟨1, some 8, none, .op .quiet (oMv (.tmp 56)), []⟩,
                  ⟨2, some 9, none, .op .quiet (oMv (.val (.int .i64 0))), []⟩])
                (.ret)))))))))))))))⟩
/-- slices.reverseRangeCmpFunc[int] -/
noncomputable def a370 : AF := ⟨[],
 (.seq
   (.ops [⟨0, some 10, none, .op .quiet (oMv (.tmp 1)), []⟩,
     ⟨1, some 8, none, .op .quiet (oMv (.tmp 10)), []⟩])
   (.seq
    (.ops [⟨0, some 11, none, .op .quiet (oMv (.tmp 2)), []⟩,
      ⟨1, some 12, none, .op .quiet (oArith .sub (.tmp 11) (.val (.int .i64 1))), []⟩,
      ⟨2, some 9, none, .op .quiet (oMv (.tmp 12)), []⟩])
    (.block 0
     (.loop
      (.seq
       (.seq
        (.ops [⟨0, some 13, none, .op .quiet (oMv (.tmp 8)), []⟩,
          ⟨1, some 14, none, .op .quiet (oMv (.tmp 9)), []⟩,
          ⟨2, some 15, none, .op .quiet (oArith .lss (.tmp 13) (.tmp 14)), []⟩])
        (.cond (.tmp 15)
         (.skip)
         (.exit 0)))
       (.block 1
        (.seq
         (.drawn [⟨0, some 16, none, .op .quiet (oMv (.tmp 0)), []⟩,
           ⟨1, some 17, none, .op .quiet (oMv (.tmp 8)), []⟩,
           ⟨2, some 18, none, .op .quiet (oMv (.tmp 0)), []⟩,
           ⟨3, some 19, none, .op .quiet (oMv (.tmp 9)), []⟩,
           ⟨4, some 20, none, .op .quiet (oMv (.tmp 0)), []⟩,
           ⟨5, some 21, none, .op .quiet (oMv (.tmp 9)), []⟩,
           ⟨6, some 22, none, .op .quiet (oIdxS 1 (.tmp 20) (.tmp 21)), []⟩,
           ⟨7, some 23, none, .op .reads (oLoad (.tmp 22)), []⟩,
           ⟨8, some 24, none, .op .quiet (oMv (.tmp 0)), []⟩,
           ⟨9, some 25, none, .op .quiet (oMv (.tmp 8)), []⟩,
           ⟨10, some 26, none, .op .quiet (oIdxS 1 (.tmp 24) (.tmp 25)), []⟩,
           ⟨11, some 27, none, .op .reads (oLoad (.tmp 26)), []⟩,
           ⟨12, some 28, none, .op .quiet (oIdxS 1 (.tmp 16) (.tmp 17)), []⟩,
           ⟨13, none, none, .op .hard (oStore 1 (.tmp 28) (.tmp 23)), []⟩,
           ⟨14, some 29, none, .op .quiet (oIdxS 1 (.tmp 18) (.tmp 19)), []⟩,
           ⟨15, none, none, .op .hard (oStore 1 (.tmp 29) (.tmp 27)), []⟩])
         (.seq
          (.ops [⟨0, some 30, none, .op .quiet (oMv (.tmp 8)), []⟩,
            ⟨1, some 31, none, .op .quiet (oArith .add (.tmp 30) (.val (.int .i64 1))), []⟩,
            ⟨2, some 8, none, .op .quiet (oMv (.tmp 31)), []⟩])
          (.ops [⟨0, some 32, none, .op .quiet (oMv (.tmp 9)), []⟩,
            ⟨1, some 33, none, .op .quiet (oArith .sub (.tmp 32) (.val (.int .i64 1))), []⟩,
            ⟨2, some 9, none, .op .quiet (oMv (.tmp 33)), []⟩])))))))))⟩
/-- slices.partialInsertionSortCmpFunc[int] -/
noncomputable def a371 : AF := ⟨[.tmp 8],
 (.seq
   (.ops [⟨0, some 8, none, .op .quiet (oMv (.val (.bool false))), []⟩])
   (.seq
    (.ops [⟨0, some 13, none, .op .quiet (oMv (.tmp 1)), []⟩,
      ⟨1, some 14, none, .op .quiet (oArith .add (.tmp 13) (.val (.int .i64 1))), []⟩,
      ⟨2, some 9, none, .op .quiet (oMv (.tmp 14)), []⟩])
    (.seq
     (.seq
      (.ops [⟨0, some 10, none, .op .quiet (oMv (.val (.int .i64 0))), []⟩])
      (.block 0
       (.loop
        (.seq
         (.seq
          (.ops [⟨0, some 15, none, .op .quiet (oMv (.tmp 10)), []⟩,
            ⟨1, some 16, none, .op .quiet (oArith .lss (.tmp 15) (.val (.int .i64 5))), []⟩])
          (.cond (.tmp 16)
           (.skip)
           (.exit 0)))
         (.seq
          (.block 1
           (.seq
            (.block 2
             (.loop
              (.seq
               (.seq
                (.drawn [⟨0, some 19, none, .op .quiet (oMv (.tmp 9)), []⟩,
                  ⟨1, some 20, none, .op .quiet (oMv (.tmp 2)), []⟩,
                  ⟨2, some 21, none, .op .quiet (oArith .lss (.tmp 19) (.tmp 20)), []⟩,
                  ⟨3, some 22, none, .op .quiet (oMv (.tmp 21)), []⟩,
                  ⟨4, some 23, some (22, true), .op .quiet (oMv (.tmp 3)), []⟩,
                  ⟨5, some 24, some (22, true), .op .quiet (oMv (.tmp 0)), []⟩,
                  ⟨6, some 25, some (22, true), .op .quiet (oMv (.tmp 9)), []⟩,
                  ⟨7, some 26, some (22, true), .op .quiet (oIdxS 1 (.tmp 24) (.tmp 25)), []⟩,
                  ⟨8, some 27, some (22, true), .op .reads (oLoad (.tmp 26)), []⟩,
                  ⟨9, some 28, some (22, true), .op .quiet (oMv (.tmp 0)), []⟩,
                  ⟨10, some 29, some (22, true), .op .quiet (oMv (.tmp 9)), []⟩,
                  ⟨11, some 30, some (22, true), .op .quiet (oArith .sub (.tmp 29) (.val (.int .i64 1))), []⟩,
                  ⟨12, some 31, some (22, true), .op .quiet (oIdxS 1 (.tmp 28) (.tmp 30)), []⟩,
                  ⟨13, some 32, some (22, true), .op .reads (oLoad (.tmp 31)), []⟩,
                  ⟨14, some 33, some (22, true), .call (.tmp 23) [(.tmp 27), (.tmp 32)], []⟩,
                  ⟨15, some 34, some (22, true), .op .quiet (oArith .lss (.tmp 33) (.val (.int .i64 0))), []⟩,
                  ⟨16, some 35, some (22, true), .op .quiet (oNot (.tmp 34)), []⟩,
                  ⟨17, some 36, none, .op .quiet (oPick (.tmp 22) (.tmp 35) (.val (.bool false))), []⟩])
                (.cond (.tmp 36)
                 (.skip)
                 (.exit 2)))
               (.block 3
                (.ops [⟨0, some 37, none, .op .quiet (oMv (.tmp 9)), []⟩,
                  ⟨1, some 38, none, .op .quiet (oArith .add (.tmp 37) (.val (.int .i64 1))), []⟩,
                  ⟨2, some 9, none, .op .quiet (oMv (.tmp 38)), []⟩])))))
            (.seq
             (.seq
              (.ops [⟨0, some 39, none, .op .quiet (oMv (.tmp 9)), []⟩,
                ⟨1, some 40, none, .op .quiet (oMv (.tmp 2)), []⟩,
                ⟨2, some 41, none, .op .quiet (oArith .eql (.tmp 39) (.tmp 40)), []⟩])
              (.cond (.tmp 41)
               (.seq
                (.ops [⟨0, some 8, none, .op .quiet (oMv (.val (.bool true))), []⟩])
                (.ret))
               (.skip)))
             (.seq
              (.seq
               (.ops [⟨0, some 42, none, .op .quiet (oMv (.tmp 2)), []⟩,
                 ⟨1, some 43, none, .op .quiet (oMv (.tmp 1)), []⟩,
                 ⟨2, some 44, none, .op .quiet (oArith .sub (.tmp 42) (.tmp 43)), []⟩,
                 ⟨3, some 45, none, .op .quiet (oArith .lss (.tmp 44) (.val (.int .i64 50))), []⟩])
               (.cond (.tmp 45)
                (.seq
                 (.ops [⟨0, some 8, none, .op .quiet (oMv (.val (.bool false))), []⟩])
                 (.ret))
                (.skip)))
              (.seq
               (.drawn [⟨0, some 46, none, .op .quiet (oMv (.tmp 0)), []⟩,
                 ⟨1, some 47, none, .op .quiet (oMv (.tmp 9)), []⟩,
                 ⟨2, some 48, none, .op .quiet (oMv (.tmp 0)), []⟩,
                 ⟨3, some 49, none, .op .quiet (oMv (.tmp 9)), []⟩,
                 ⟨4, some 50, none, .op .quiet (oArith .sub (.tmp 49) (.val (.int .i64 1))), []⟩,
                 ⟨5, some 51, none, .op .quiet (oMv (.tmp 0)), []⟩,
                 ⟨6, some 52, none, .op .quiet (oMv (.tmp 9)), []⟩,
                 ⟨7, some 53, none, .op .quiet (oArith .sub (.tmp 52) (.val (.int .i64 1))), []⟩,
                 ⟨8, some 54, none, .op .quiet (oIdxS 1 (.tmp 51) (.tmp 53)), []⟩,
                 ⟨9, some 55, none, .op .reads (oLoad (.tmp 54)), []⟩,
                 ⟨10, some 56, none, .op .quiet (oMv (.tmp 0)), []⟩,
                 ⟨11, some 57, none, .op .quiet (oMv (.tmp 9)), []⟩,
                 ⟨12, some 58, none, .op .quiet (oIdxS 1 (.tmp 56) (.tmp 57)), []⟩,
                 ⟨13, some 59, none, .op .reads (oLoad (.tmp 58)), []⟩,
                 ⟨14, some 60, none, .op .quiet (oIdxS 1 (.tmp 46) (.tmp 47)), []⟩,
                 ⟨15, none, none, .op .hard (oStore 1 (.tmp 60) (.tmp 55)), []⟩,
                 ⟨16, some 61, none, .op .quiet (oIdxS 1 (.tmp 48) (.tmp 50)), []⟩,
                 ⟨17, none, none, .op .hard (oStore 1 (.tmp 61) (.tmp 59)), []⟩])
               (.seq
                (.seq
                 (.ops [⟨0, some 62, none, .op .quiet (oMv (.tmp 9)), []⟩,
                   ⟨1, some 63, none, .op .quiet (oMv (.tmp 1)), []⟩,
                   ⟨2, some 64, none, .op .quiet (oArith .sub (.tmp 62) (.tmp 63)), []⟩,
                   ⟨3, some 65, none, .op .quiet (oArith .geq (.tmp 64) (.val (.int .i64 2))), []⟩])
                 (.cond (.tmp 65)
                  (.seq
                   (.ops [⟨0, some 66, none, .op .quiet (oMv (.tmp 9)), []⟩,
                     ⟨1, some 67, none, .op .quiet (oArith .sub (.tmp 66) (.val (.int .i64 1))), []⟩,
                     ⟨2, some 11, none, .op .quiet (oMv (.tmp 67)), []⟩])
                   (.block 4
                    (.loop
                     (.seq
                      (.seq
                       (.ops [⟨0, some 68, none, .op .quiet (oMv (.tmp 11)), []⟩,
                         ⟨1, some 69, none, .op .quiet (oArith .geq (.tmp 68) (.val (.int .i64 1))), []⟩])
                       (.cond (.tmp 69)
                        (.skip)
                        (.exit 4)))
                      (.seq
                       (.block 5
                        (.seq
                         (.seq
                          (.drawn [⟨0, some 72, none, .op .quiet (oMv (.tmp 3)), []⟩,
                            ⟨1, some 73, none, .op .quiet (oMv (.tmp 0)), []⟩,
                            ⟨2, some 74, none, .op .quiet (oMv (.tmp 11)), []⟩,
                            ⟨3, some 75, none, .op .quiet (oIdxS 1 (.tmp 73) (.tmp 74)), []⟩,
                            ⟨4, some 76, none, .op .reads (oLoad (.tmp 75)), []⟩,
                            ⟨5, some 77, none, .op .quiet (oMv (.tmp 0)), []⟩,
                            ⟨6, some 78, none, .op .quiet (oMv (.tmp 11)), []⟩,
                            ⟨7, some 79, none, .op .quiet (oArith .sub (.tmp 78) (.val (.int .i64 1))), []⟩,
                            ⟨8, some 80, none, .op .quiet (oIdxS 1 (.tmp 77) (.tmp 79)), []⟩,
                            ⟨9, some 81, none, .op .reads (oLoad (.tmp 80)), []⟩,
                            ⟨10, some 82, none, .call (.tmp 72) [(.tmp 76), (.tmp 81)], []⟩,
                            ⟨11, some 83, none, .op .quiet (oArith .lss (.tmp 82) (.val (.int .i64 0))), []⟩,
                            ⟨12, some 84, none, .op .quiet (oNot (.tmp 83)), []⟩])
                          (.cond (.tmp 84)
                           (.exit 4)
                           (.skip)))
                         (.drawn [⟨0, some 85, none, .op .quiet (oMv (.tmp 0)), []⟩,
                           ⟨1, some 86, none, .op .quiet (oMv (.tmp 11)), []⟩,
                           ⟨2, some 87, none, .op .quiet (oMv (.tmp 0)), []⟩,
                           ⟨3, some 88, none, .op .quiet (oMv (.tmp 11)), []⟩,
                           ⟨4, some 89, none, .op .quiet (oArith .sub (.tmp 88) (.val (.int .i64 1))), []⟩,
                           ⟨5, some 90, none, .op .quiet (oMv (.tmp 0)), []⟩,
                           ⟨6, some 91, none, .op .quiet (oMv (.tmp 11)), []⟩,
                           ⟨7, some 92, none, .op .quiet (oArith .sub (.tmp 91) (.val (.int .i64 1))), []⟩,
                           ⟨8, some 93, none, .op .quiet (oIdxS 1 (.tmp 90) (.tmp 92)), []⟩,
                           ⟨9, some 94, none, .op .reads (oLoad (.tmp 93)), []⟩,
                           ⟨10, some 95, none, .op .quiet (oMv (.tmp 0)), []⟩,
                           ⟨11, some 96, none, .op .quiet (oMv (.tmp 11)), []⟩,
                           ⟨12, some 97, none, .op .quiet (oIdxS 1 (.tmp 95) (.tmp 96)), []⟩,
                           ⟨13, some 98, none, .op .reads (oLoad (.tmp 97)), []⟩,
                           ⟨14, some 99, none, .op .quiet (oIdxS 1 (.tmp 85) (.tmp 86)), []⟩,
                           ⟨15, none, none, .op .hard (oStore 1 (.tmp 99) (.tmp 94)), []⟩,
                           ⟨16, some 100, none, .op .quiet (oIdxS 1 (.tmp 87) (.tmp 89)), []⟩,
                           ⟨17, none, none, .op .hard (oStore 1 (.tmp 100) (.tmp 98)), []⟩])))
                       (.ops [⟨0, some 70, none, .op .quiet (oMv (.tmp 11)), []⟩,
                         ⟨1, some 71, none, .op .quiet (oArith .sub (.tmp 70) (.val (.int .i64 1))), []⟩,
                         ⟨2, some 11, none, .op .quiet (oMv (.tmp 71)), []⟩]))))))
                  (.skip)))
                (.seq
                 (.ops [⟨0, some 101, none, .op .quiet (oMv (.tmp 2)), []⟩,
                   ⟨1, some 102, none, .op .quiet (oMv (.tmp 9)), []⟩,
                   ⟨2, some 103, none, .op .quiet (oArith .sub (.tmp 101) (.tmp 102)), []⟩,
                   ⟨3, some 104, none, .op .quiet (oArith .geq (.tmp 103) (.val (.int .i64 2))), []⟩])
                 (.cond (.tmp 104)
                  (.seq
                   (.ops [⟨0, some 105, none, .op .quiet (oMv (.tmp 9)), []⟩,
                     ⟨1, some 106, none, .op .quiet (oArith .add (.tmp 105) (.val (.int .i64 1))), []⟩,
                     ⟨2, some 12, none, .op .quiet (oMv (.tmp 106)), []⟩])
                   (.block 6
                    (.loop
                     (.seq
                      (.seq
                       (.ops [⟨0, some 107, none, .op .quiet (oMv (.tmp 12)), []⟩,
                         ⟨1, some 108, none, .op .quiet (oMv (.tmp 2)), []⟩,
                         ⟨2, some 109, none, .op .quiet (oArith .lss (.tmp 107) (.tmp 108)), []⟩])
                       (.cond (.tmp 109)
                        (.skip)
                        (.exit 6)))
                      (.seq
                       (.block 7
                        (.seq
                         (.seq
                          (.drawn [⟨0, some 112, none, .op .quiet (oMv (.tmp 3)), []⟩,
                            ⟨1, some 113, none, .op .quiet (oMv (.tmp 0)), []⟩,
                            ⟨2, some 114, none, .op .quiet (oMv (.tmp 12)), []⟩,
                            ⟨3, some 115, none, .op .quiet (oIdxS 1 (.tmp 113) (.tmp 114)), []⟩,
                            ⟨4, some 116, none, .op .reads (oLoad (.tmp 115)), []⟩,
                            ⟨5, some 117, none, .op .quiet (oMv (.tmp 0)), []⟩,
                            ⟨6, some 118, none, .op .quiet (oMv (.tmp 12)), []⟩,
                            ⟨7, some 119, none, .op .quiet (oArith .sub (.tmp 118) (.val (.int .i64 1))), []⟩,
                            ⟨8, some 120, none, .op .quiet (oIdxS 1 (.tmp 117) (.tmp 119)), []⟩,
                            ⟨9, some 121, none, .op .reads (oLoad (.tmp 120)), []⟩,
                            ⟨10, some 122, none, .call (.tmp 112) [(.tmp 116), (.tmp 121)], []⟩,
                            ⟨11, some 123, none, .op .quiet (oArith .lss (.tmp 122) (.val (.int .i64 0))), []⟩,
                            ⟨12, some 124, none, .op .quiet (oNot (.tmp 123)), []⟩])
                          (.cond (.tmp 124)
                           (.exit 6)
                           (.skip)))
                         (.drawn [⟨0, some 125, none, .op .quiet (oMv (.tmp 0)), []⟩,
                           ⟨1, some 126, none, .op .quiet (oMv (.tmp 12)), []⟩,
                           ⟨2, some 127, none, .op .quiet (oMv (.tmp 0)), []⟩,
                           ⟨3, some 128, none, .op .quiet (oMv (.tmp 12)), []⟩,
                           ⟨4, some 129, none, .op .quiet (oArith .sub (.tmp 128) (.val (.int .i64 1))), []⟩,
                           ⟨5, some 130, none, .op .quiet (oMv (.tmp 0)), []⟩,
                           ⟨6, some 131, none, .op .quiet (oMv (.tmp 12)), []⟩,
                           ⟨7, some 132, none, .op .quiet (oArith .sub (.tmp 131) (.val (.int .i64 1))), []⟩,
                           ⟨8, some 133, none, .op .quiet (oIdxS 1 (.tmp 130) (.tmp 132)), []⟩,
                           ⟨9, some 134, none, .op .reads (oLoad (.tmp 133)), []⟩,
                           ⟨10, some 135, none, .op .quiet (oMv (.tmp 0)), []⟩,
                           ⟨11, some 136, none, .op .quiet (oMv (.tmp 12)), []⟩,
                           ⟨12, some 137, none, .op .quiet (oIdxS 1 (.tmp 135) (.tmp 136)), []⟩,
                           ⟨13, some 138, none, .op .reads (oLoad (.tmp 137)), []⟩,
                           ⟨14, some 139, none, .op .quiet (oIdxS 1 (.tmp 125) (.tmp 126)), []⟩,
                           ⟨15, none, none, .op .hard (oStore 1 (.tmp 139) (.tmp 134)), []⟩,
                           ⟨16, some 140, none, .op .quiet (oIdxS 1 (.tmp 127) (.tmp 129)), []⟩,
                           ⟨17, none, none, .op .hard (oStore 1 (.tmp 140) (.tmp 138)), []⟩])))
                       (.ops [⟨0, some 110, none, .op .quiet (oMv (.tmp 12)), []⟩,
                         ⟨1, some 111, none, .op .quiet (oArith .add (.tmp 110) (.val (.int .i64 1))), []⟩,
                         ⟨2, some 12, none, .op .quiet (oMv (.tmp 111)), []⟩]))))))
                  (.skip)))))))))
          (.ops [⟨0, some 17, none, .op .quiet (oMv (.tmp 10)), []⟩,
            ⟨1, some 18, none, .op .quiet (oArith .add (.tmp 17) (.val (.int .i64 1))), []⟩,
            ⟨2, some 10, none, .op .quiet (oMv (.tmp 18)), []⟩]))))))
     (.seq
      (.ops [⟨0, some 8, none, .op .quiet (oMv (.val (.bool false))), []⟩])
      (.ret)))))⟩
/-- slices.partitionEqualCmpFunc[int] -/
noncomputable def a372 : AF := ⟨[.tmp 10],
 (.seq
   (.ops [⟨0, some 10, none, .op .quiet (oMv (.val (.int .i64 0))), []⟩])
   (.seq
    (.drawn [⟨0, some 13, none, .op .quiet (oMv (.tmp 0)), []⟩,
      ⟨1, some 14, none, .op .quiet (oMv (.tmp 1)), []⟩,
      ⟨2, some 15, none, .op .quiet (oMv (.tmp 0)), []⟩,
      ⟨3, some 16, none, .op .quiet (oMv (.tmp 3)), []⟩,
      ⟨4, some 17, none, .op .quiet (oMv (.tmp 0)), []⟩,
      ⟨5, some 18, none, .op .quiet (oMv (.tmp 3)), []⟩,
      ⟨6, some 19, none, .op .quiet (oIdxS 1 (.tmp 17) (.tmp 18)), []⟩,
      ⟨7, some 20, none, .op .reads (oLoad (.tmp 19)), []⟩,
      ⟨8, some 21, none, .op .quiet (oMv (.tmp 0)), []⟩,
      ⟨9, some 22, none, .op .quiet (oMv (.tmp 1)), []⟩,
      ⟨10, some 23, none, .op .quiet (oIdxS 1 (.tmp 21) (.tmp 22)), []⟩,
      ⟨11, some 24, none, .op .reads (oLoad (.tmp 23)), []⟩,
      ⟨12, some 25, none, .op .quiet (oIdxS 1 (.tmp 13) (.tmp 14)), []⟩,
      ⟨13, none, none, .op .hard (oStore 1 (.tmp 25) (.tmp 20)), []⟩,
      ⟨14, some 26, none, .op .quiet (oIdxS 1 (.tmp 15) (.tmp 16)), []⟩,
      ⟨15, none, none, .op .hard (oStore 1 (.tmp 26) (.tmp 24)), []⟩])
    (.seq
     (.ops [⟨0, some 27, none, .op .quiet (oMv (.tmp 1)), []⟩,
       ⟨1, some 28, none, .op .quiet (oArith .add (.tmp 27) (.val (.int .i64 1))), []⟩,
       ⟨2, some 29, none, .op .quiet (oMv (.tmp 2)), []⟩,
       ⟨3, some 30, none, .op .quiet (oArith .sub (.tmp 29) (.val (.int .i64 1))), []⟩,
       ⟨4, some 11, none, .op .quiet (oMv (.tmp 28)), []⟩,
       ⟨5, some 12, none, .op .quiet (oMv (.tmp 30)), []⟩])
     (.seq
      (.block 0
       (.loop
        (.block 1
         (.seq
          (.block 2
           (.loop
            (.seq
             (.seq
              (.drawn [⟨0, some 31, none, .op .quiet (oMv (.tmp 11)), []⟩,
                ⟨1, some 32, none, .op .quiet (oMv (.tmp 12)), []⟩,
                ⟨2, some 33, none, .op .quiet (oArith .leq (.tmp 31) (.tmp 32)), []⟩,
                ⟨3, some 34, none, .op .quiet (oMv (.tmp 33)), []⟩,
                ⟨4, some 35, some (34, true), .op .quiet (oMv (.tmp 4)), []⟩,
                ⟨5, some 36, some (34, true), .op .quiet (oMv (.tmp 0)), []⟩,
                ⟨6, some 37, some (34, true), .op .quiet (oMv (.tmp 1)), []⟩,
                ⟨7, some 38, some (34, true), .op .quiet (oIdxS 1 (.tmp 36) (.tmp 37)), []⟩,
                ⟨8, some 39, some (34, true), .op .reads (oLoad (.tmp 38)), []⟩,
                ⟨9, some 40, some (34, true), .op .quiet (oMv (.tmp 0)), []⟩,
                ⟨10, some 41, some (34, true), .op .quiet (oMv (.tmp 11)), []⟩,
                ⟨11, some 42, some (34, true), .op .quiet (oIdxS 1 (.tmp 40) (.tmp 41)), []⟩,
                ⟨12, some 43, some (34, true), .op .reads (oLoad (.tmp 42)), []⟩,
                ⟨13, some 44, some (34, true), .call (.tmp 35) [(.tmp 39), (.tmp 43)], []⟩,
                ⟨14, some 45, some (34, true), .op .quiet (oArith .lss (.tmp 44) (.val (.int .i64 0))), []⟩,
                ⟨15, some 46, some (34, true), .op .quiet (oNot (.tmp 45)), []⟩,
                ⟨16, some 47, none, .op .quiet (oPick (.tmp 34) (.tmp 46) (.val (.bool false))), []⟩])
              (.cond (.tmp 47)
               (.skip)
               (.exit 2)))
             (.block 3
              (.ops [⟨0, some 48, none, .op .quiet (oMv (.tmp 11)), []⟩,
                ⟨1, some 49, none, .op .quiet (oArith .add (.tmp 48) (.val (.int .i64 1))), []⟩,
                ⟨2, some 11, none, .op .quiet (oMv (.tmp 49)), []⟩])))))
          (.seq
           (.block 4
            (.loop
             (.seq
              (.seq
               (.drawn [⟨0, some 50, none, .op .quiet (oMv (.tmp 11)), []⟩,
                 ⟨1, some 51, none, .op .quiet (oMv (.tmp 12)), []⟩,
                 ⟨2, some 52, none, .op .quiet (oArith .leq (.tmp 50) (.tmp 51)), []⟩,
                 ⟨3, some 53, none, .op .quiet (oMv (.tmp 52)), []⟩,
                 ⟨4, some 54, some (53, true), .op .quiet (oMv (.tmp 4)), []⟩,
                 ⟨5, some 55, some (53, true), .op .quiet (oMv (.tmp 0)), []⟩,
                 ⟨6, some 56, some (53, true), .op .quiet (oMv (.tmp 1)), []⟩,
                 ⟨7, some 57, some (53, true), .op .quiet (oIdxS 1 (.tmp 55) (.tmp 56)), []⟩,
                 ⟨8, some 58, some (53, true), .op .reads (oLoad (.tmp 57)), []⟩,
                 ⟨9, some 59, some (53, true), .op .quiet (oMv (.tmp 0)), []⟩,
                 ⟨10, some 60, some (53, true), .op .quiet (oMv (.tmp 12)), []⟩,
                 ⟨11, some 61, some (53, true), .op .quiet (oIdxS 1 (.tmp 59) (.tmp 60)), []⟩,
                 ⟨12, some 62, some (53, true), .op .reads (oLoad (.tmp 61)), []⟩,
                 ⟨13, some 63, some (53, true), .call (.tmp 54) [(.tmp 58), (.tmp 62)], []⟩,
                 ⟨14, some 64, some (53, true), .op .quiet (oArith .lss (.tmp 63) (.val (.int .i64 0))), []⟩,
                 ⟨15, some 65, none, .op .quiet (oPick (.tmp 53) (.tmp 64) (.val (.bool false))), []⟩])
               (.cond (.tmp 65)
                (.skip)
                (.exit 4)))
              (.block 5
               (.ops [⟨0, some 66, none, .op .quiet (oMv (.tmp 12)), []⟩,
                 ⟨1, some 67, none, .op .quiet (oArith .sub (.tmp 66) (.val (.int .i64 1))), []⟩,
                 ⟨2, some 12, none, .op .quiet (oMv (.tmp 67)), []⟩])))))
           (.seq
            (.seq
             (.ops [⟨0, some 68, none, .op .quiet (oMv (.tmp 11)), []⟩,
               ⟨1, some 69, none, .op .quiet (oMv (.tmp 12)), []⟩,
               ⟨2, some 70, none, .op .quiet (oArith .gtr (.tmp 68) (.tmp 69)), []⟩])
             (.cond (.tmp 70)
              (.exit 0)
              (.skip)))
            (.seq
             (.drawn [⟨0, some 71, none, .op .quiet (oMv (.tmp 0)), []⟩,
               ⟨1, some 72, none, .op .quiet (oMv (.tmp 11)), []⟩,
               ⟨2, some 73, none, .op .quiet (oMv (.tmp 0)), []⟩,
               ⟨3, some 74, none, .op .quiet (oMv (.tmp 12)), []⟩,
               ⟨4, some 75, none, .op .quiet (oMv (.tmp 0)), []⟩,
               ⟨5, some 76, none, .op .quiet (oMv (.tmp 12)), []⟩,
               ⟨6, some 77, none, .op .quiet (oIdxS 1 (.tmp 75) (.tmp 76)), []⟩,
               ⟨7, some 78, none, .op .reads (oLoad (.tmp 77)), []⟩,
               ⟨8, some 79, none, .op .quiet (oMv (.tmp 0)), []⟩,
               ⟨9, some 80, none, .op .quiet (oMv (.tmp 11)), []⟩,
               ⟨10, some 81, none, .op .quiet (oIdxS 1 (.tmp 79) (.tmp 80)), []⟩,
               ⟨11, some 82, none, .op .reads (oLoad (.tmp 81)), []⟩,
               ⟨12, some 83, none, .op .quiet (oIdxS 1 (.tmp 71) (.tmp 72)), []⟩,
               ⟨13, none, none, .op .hard (oStore 1 (.tmp 83) (.tmp 78)), []⟩,
               ⟨14, some 84, none, .op .quiet (oIdxS 1 (.tmp 73) (.tmp 74)), []⟩,
               ⟨15, none, none, .op .hard (oStore 1 (.tmp 84) (.tmp 82)), []⟩])
             (.seq
              (.ops [⟨0, some 85, none, .op .quiet (oMv (.tmp 11)), []⟩,
                ⟨1, some 86, none, .op .quiet (oArith .add (.tmp 85) (.val (.int .i64 1))), []⟩,
                ⟨2, some 11, none, .op .quiet (oMv (.tmp 86)), []⟩])
              (.ops [⟨0, some 87, none, .op .quiet (oMv (.tmp 12)), []⟩,
                ⟨1, some 88, none, .op .quiet (oArith .sub (.tmp 87) (.val (.int .i64 1))), []⟩,
                ⟨2, some 12, none, .op .quiet (oMv (.tmp 88)), []⟩])))))))))
      (.seq
       (.ops [⟨0, some 89, none, .op .quiet (oMv (.tmp 11)), []⟩,
         ⟨1, some 10, none, .op .quiet (oMv (.tmp 89)), []⟩])
       (.ret))))))⟩
/-- slices.partitionCmpFunc[int] -/
noncomputable def a373 : AF := ⟨[.tmp 10, .tmp 11],
 (.seq
   (.ops [⟨0, some 10, none, .op .quiet (oMv (.val (.int .i64 0))), []⟩,
     ⟨1, some 11, none, .op .quiet (oMv (.val (.bool false))), []⟩])
   (.seq
    (.drawn [⟨0, some 14, none, .op .quiet (oMv (.tmp 0)), []⟩,
      ⟨1, some 15, none, .op .quiet (oMv (.tmp 1)), []⟩,
      ⟨2, some 16, none, .op .quiet (oMv (.tmp 0)), []⟩,
      ⟨3, some 17, none, .op .quiet (oMv (.tmp 3)), []⟩,
      ⟨4, some 18, none, .op .quiet (oMv (.tmp 0)), []⟩,
      ⟨5, some 19, none, .op .quiet (oMv (.tmp 3)), []⟩,
      ⟨6, some 20, none, .op .quiet (oIdxS 1 (.tmp 18) (.tmp 19)), []⟩,
      ⟨7, some 21, none, .op .reads (oLoad (.tmp 20)), []⟩,
      ⟨8, some 22, none, .op .quiet (oMv (.tmp 0)), []⟩,
      ⟨9, some 23, none, .op .quiet (oMv (.tmp 1)), []⟩,
      ⟨10, some 24, none, .op .quiet (oIdxS 1 (.tmp 22) (.tmp 23)), []⟩,
      ⟨11, some 25, none, .op .reads (oLoad (.tmp 24)), []⟩,
      ⟨12, some 26, none, .op .quiet (oIdxS 1 (.tmp 14) (.tmp 15)), []⟩,
      ⟨13, none, none, .op .hard (oStore 1 (.tmp 26) (.tmp 21)), []⟩,
      ⟨14, some 27, none, .op .quiet (oIdxS 1 (.tmp 16) (.tmp 17)), []⟩,
      ⟨15, none, none, .op .hard (oStore 1 (.tmp 27) (.tmp 25)), []⟩])
    (.seq
     (.ops [⟨0, some 28, none, .op .quiet (oMv (.tmp 1)), []⟩,
       ⟨1, some 29, none, .op .quiet (oArith .add (.tmp 28) (.val (.int .i64 1))), []⟩,
       ⟨2, some 30, none, .op .quiet (oMv (.tmp 2)), []⟩,
       ⟨3, some 31, none, .op .quiet (oArith .sub (.tmp 30) (.val (.int .i64 1))), []⟩,
       ⟨4, some 12, none, .op .quiet (oMv (.tmp 29)), []⟩,
       ⟨5, some 13, none, .op .quiet (oMv (.tmp 31)), []⟩])
     (.seq
      (.block 0
       (.loop
        (.seq
         (.seq
          (.drawn [⟨0, some 32, none, .op .quiet (oMv (.tmp 12)), []⟩,
            ⟨1, some 33, none, .op .quiet (oMv (.tmp 13)), []⟩,
            ⟨2, some 34, none, .op .quiet (oArith .leq (.tmp 32) (.tmp 33)), []⟩,
            ⟨3, some 35, none, .op .quiet (oMv (.tmp 34)), []⟩,
            ⟨4, some 36, some (35, true), .op .quiet (oMv (.tmp 4)), []⟩,
            ⟨5, some 37, some (35, true), .op .quiet (oMv (.tmp 0)), []⟩,
            ⟨6, some 38, some (35, true), .op .quiet (oMv (.tmp 12)), []⟩,
            ⟨7, some 39, some (35, true), .op .quiet (oIdxS 1 (.tmp 37) (.tmp 38)), []⟩,
            ⟨8, some 40, some (35, true), .op .reads (oLoad (.tmp 39)), []⟩,
            ⟨9, some 41, some (35, true), .op .quiet (oMv (.tmp 0)), []⟩,
            ⟨10, some 42, some (35, true), .op .quiet (oMv (.tmp 1)), []⟩,
            ⟨11, some 43, some (35, true), .op .quiet (oIdxS 1 (.tmp 41) (.tmp 42)), []⟩,
            ⟨12, some 44, some (35, true), .op .reads (oLoad (.tmp 43)), []⟩,
            ⟨13, some 45, some (35, true), .call (.tmp 36) [(.tmp 40), (.tmp 44)], []⟩,
            ⟨14, some 46, some (35, true), .op .quiet (oArith .lss (.tmp 45) (.val (.int .i64 0))), []⟩,
            ⟨15, some 47, none, .op .quiet (oPick (.tmp 35) (.tmp 46) (.val (.bool false))), []⟩])
          (.cond (.tmp 47)
           (.skip)
           (.exit 0)))
         (.block 1
          (.ops [⟨0, some 48, none, .op .quiet (oMv (.tmp 12)), []⟩,
            ⟨1, some 49, none, .op .quiet (oArith .add (.tmp 48) (.val (.int .i64 1))), []⟩,
            ⟨2, some 12, none, .op .quiet (oMv (.tmp 49)), []⟩])))))
      (.seq
       (.block 2
        (.loop
         (.seq
          (.seq
           (.drawn [⟨0, some 50, none, .op .quiet (oMv (.tmp 12)), []⟩,
             ⟨1, some 51, none, .op .quiet (oMv (.tmp 13)), []⟩,
             ⟨2, some 52, none, .op .quiet (oArith .leq (.tmp 50) (.tmp 51)), []⟩,
             ⟨3, some 53, none, .op .quiet (oMv (.tmp 52)), []⟩,
             ⟨4, some 54, some (53, true), .op .quiet (oMv (.tmp 4)), []⟩,
             ⟨5, some 55, some (53, true), .op .quiet (oMv (.tmp 0)), []⟩,
             ⟨6, some 56, some (53, true), .op .quiet (oMv (.tmp 13)), []⟩,
             ⟨7, some 57, some (53, true), .op .quiet (oIdxS 1 (.tmp 55) (.tmp 56)), []⟩,
             ⟨8, some 58, some (53, true), .op .reads (oLoad (.tmp 57)), []⟩,
             ⟨9, some 59, some (53, true), .op .quiet (oMv (.tmp 0)), []⟩,
             ⟨10, some 60, some (53, true), .op .quiet (oMv (.tmp 1)), []⟩,
             ⟨11, some 61, some (53, true), .op .quiet (oIdxS 1 (.tmp 59) (.tmp 60)), []⟩,
             ⟨12, some 62, some (53, true), .op .reads (oLoad (.tmp 61)), []⟩,
             ⟨13, some 63, some (53, true), .call (.tmp 54) [(.tmp 58), (.tmp 62)], []⟩,
             ⟨14, some 64, some (53, true), .op .quiet (oArith .lss (.tmp 63) (.val (.int .i64 0))), []⟩,
             ⟨15, some 65, some (53, true), .op .quiet (oNot (.tmp 64)), []⟩,
             ⟨16, some 66, none, .op .quiet (oPick (.tmp 53) (.tmp 65) (.val (.bool false))), []⟩])
           (.cond (.tmp 66)
            (.skip)
            (.exit 2)))
          (.block 3
           (.ops [⟨0, some 67, none, .op .quiet (oMv (.tmp 13)), []⟩,
             ⟨1, some 68, none, .op .quiet (oArith .sub (.tmp 67) (.val (.int .i64 1))), []⟩,
             ⟨2, some 13, none, .op .quiet (oMv (.tmp 68)), []⟩])))))
       (.seq
        (.seq
         (.ops [⟨0, some 69, none, .op .quiet (oMv (.tmp 12)), []⟩,
           ⟨1, some 70, none, .op .quiet (oMv (.tmp 13)), []⟩,
           ⟨2, some 71, none, .op .quiet (oArith .gtr (.tmp 69) (.tmp 70)), []⟩])
         (.cond (.tmp 71)
          (.seq
           (.drawn [⟨0, some 72, none, .op .quiet (oMv (.tmp 0)), []⟩,
             ⟨1, some 73, none, .op .quiet (oMv (.tmp 13)), []⟩,
             ⟨2, some 74, none, .op .quiet (oMv (.tmp 0)), []⟩,
             ⟨3, some 75, none, .op .quiet (oMv (.tmp 1)), []⟩,
             ⟨4, some 76, none, .op .quiet (oMv (.tmp 0)), []⟩,
             ⟨5, some 77, none, .op .quiet (oMv (.tmp 1)), []⟩,
             ⟨6, some 78, none, .op .quiet (oIdxS 1 (.tmp 76) (.tmp 77)), []⟩,
             ⟨7, some 79, none, .op .reads (oLoad (.tmp 78)), []⟩,
             ⟨8, some 80, none, .op .quiet (oMv (.tmp 0)), []⟩,
             ⟨9, some 81, none, .op .quiet (oMv (.tmp 13)), []⟩,
             ⟨10, some 82, none, .op .quiet (oIdxS 1 (.tmp 80) (.tmp 81)), []⟩,
             ⟨11, some 83, none, .op .reads (oLoad (.tmp 82)), []⟩,
             ⟨12, some 84, none, .op .quiet (oIdxS 1 (.tmp 72) (.tmp 73)), []⟩,
             ⟨13, none, none, .op .hard (oStore 1 (.tmp 84) (.tmp 79)), []⟩,
             ⟨14, some 85, none, .op .quiet (oIdxS 1 (.tmp 74) (.tmp 75)), []⟩,
             ⟨15, none, none, .op .hard (oStore 1 (.tmp 85) (.tmp 83)), []⟩])
           (.seq
            (.ops [⟨0, some 86, none, .op .quiet (oMv (.tmp 13)), []⟩,
              ⟨1, some 10, none, .op .quiet (oMv (.tmp 86)), []⟩,
              ⟨2, some 11, none, .op .quiet (oMv (.val (.bool true))), []⟩])
            (.ret)))
          (.skip)))
        (.seq
         (.drawn [⟨0, some 87, none, .op .quiet (oMv (.tmp 0)), []⟩,
           ⟨1, some 88, none, .op .quiet (oMv (.tmp 12)), []⟩,
           ⟨2, some 89, none, .op .quiet (oMv (.tmp 0)), []⟩,
           ⟨3, some 90, none, .op .quiet (oMv (.tmp 13)), []⟩,
           ⟨4, some 91, none, .op .quiet (oMv (.tmp 0)), []⟩,
           ⟨5, some 92, none, .op .quiet (oMv (.tmp 13)), []⟩,
           ⟨6, some 93, none, .op .quiet (oIdxS 1 (.tmp 91) (.tmp 92)), []⟩,
           ⟨7, some 94, none, .op .reads (oLoad (.tmp 93)), []⟩,
           ⟨8, some 95, none, .op .quiet (oMv (.tmp 0)), []⟩,
           ⟨9, some 96, none, .op .quiet (oMv (.tmp 12)), []⟩,
           ⟨10, some 97, none, .op .quiet (oIdxS 1 (.tmp 95) (.tmp 96)), []⟩,
           ⟨11, some 98, none, .op .reads (oLoad (.tmp 97)), []⟩,
           ⟨12, some 99, none, .op .quiet (oIdxS 1 (.tmp 87) (.tmp 88)), []⟩,
           ⟨13, none, none, .op .hard (oStore 1 (.tmp 99) (.tmp 94)), []⟩,
           ⟨14, some 100, none, .op .quiet (oIdxS 1 (.tmp 89) (.tmp 90)), []⟩,
           ⟨15, none, none, .op .hard (oStore 1 (.tmp 100) (.tmp 98)), []⟩])
         (.seq
          (.ops [⟨0, some 101, none, .op .quiet (oMv (.tmp 12)), []⟩,
            ⟨1, some 102, none, .op .quiet (oArith .add (.tmp 101) (.val (.int .i64 1))), []⟩,
            ⟨2, some 12, none, .op .quiet (oMv (.tmp 102)), []⟩])
          (.seq
           (.ops [⟨0, some 103, none, .op .quiet (oMv (.tmp 13)), []⟩,
             ⟨1, some 104, none, .op .quiet (oArith .sub (.tmp 103) (.val (.int .i64 1))), []⟩,
             ⟨2, some 13, none, .op .quiet (oMv (.tmp 104)), []⟩])
           (.seq
            (.block 4
             (.loop
              (.block 5
               (.seq
                (.block 6
                 (.loop
                  (.seq
                   (.seq
                    (.drawn [⟨0, some 105, none, .op .quiet (oMv (.tmp 12)), []⟩,
                      ⟨1, some 106, none, .op .quiet (oMv (.tmp 13)), []⟩,
                      ⟨2, some 107, none, .op .quiet (oArith .leq (.tmp 105) (.tmp 106)), []⟩,
                      ⟨3, some 108, none, .op .quiet (oMv (.tmp 107)), []⟩,
                      ⟨4, some 109, some (108, true), .op .quiet (oMv (.tmp 4)), []⟩,
                      ⟨5, some 110, some (108, true), .op .quiet (oMv (.tmp 0)), []⟩,
                      ⟨6, some 111, some (108, true), .op .quiet (oMv (.tmp 12)), []⟩,
                      ⟨7, some 112, some (108, true), .op .quiet (oIdxS 1 (.tmp 110) (.tmp 111)), []⟩,
                      ⟨8, some 113, some (108, true), .op .reads (oLoad (.tmp 112)), []⟩,
                      ⟨9, some 114, some (108, true), .op .quiet (oMv (.tmp 0)), []⟩,
                      ⟨10, some 115, some (108, true), .op .quiet (oMv (.tmp 1)), []⟩,
                      ⟨11, some 116, some (108, true), .op .quiet (oIdxS 1 (.tmp 114) (.tmp 115)), []⟩,
                      ⟨12, some 117, some (108, true), .op .reads (oLoad (.tmp 116)), []⟩,
                      ⟨13, some 118, some (108, true), .call (.tmp 109) [(.tmp 113), (.tmp 117)], []⟩,
                      ⟨14, some 119, some (108, true), .op .quiet (oArith .lss (.tmp 118) (.val (.int .i64 0))), []⟩,
                      ⟨15, some 120, none, .op .quiet (oPick (.tmp 108) (.tmp 119) (.val (.bool false))), []⟩])
                    (.cond (.tmp 120)
                     (.skip)
                     (.exit 6)))
                   (.block 7
                    (.ops [⟨0, some 121, none, .op .quiet (oMv (.tmp 12)), []⟩,
                      ⟨1, some 122, none, .op .quiet (oArith .add (.tmp 121) (.val (.int .i64 1))), []⟩,
                      ⟨2, some 12, none, .op .quiet (oMv (.tmp 122)), []⟩])))))
                (.seq
                 (.block 8
                  (.loop
                   (.seq
                    (.seq
                     (.drawn [⟨0, some 123, none, .op .quiet (oMv (.tmp 12)), []⟩,
                       ⟨1, some 124, none, .op .quiet (oMv (.tmp 13)), []⟩,
                       ⟨2, some 125, none, .op .quiet (oArith .leq (.tmp 123) (.tmp 124)), []⟩,
                       ⟨3, some 126, none, .op .quiet (oMv (.tmp 125)), []⟩,
                       ⟨4, some 127, some (126, true), .op .quiet (oMv (.tmp 4)), []⟩,
                       ⟨5, some 128, some (126, true), .op .quiet (oMv (.tmp 0)), []⟩,
                       ⟨6, some 129, some (126, true), .op .quiet (oMv (.tmp 13)), []⟩,
                       ⟨7, some 130, some (126, true), .op .quiet (oIdxS 1 (.tmp 128) (.tmp 129)), []⟩,
                       ⟨8, some 131, some (126, true), .op .reads (oLoad (.tmp 130)), []⟩,
                       ⟨9, some 132, some (126, true), .op .quiet (oMv (.tmp 0)), []⟩,
                       ⟨10, some 133, some (126, true), .op .quiet (oMv (.tmp 1)), []⟩,
                       ⟨11, some 134, some (126, true), .op .quiet (oIdxS 1 (.tmp 132) (.tmp 133)), []⟩,
                       ⟨12, some 135, some (126, true), .op .reads (oLoad (.tmp 134)), []⟩,
                       ⟨13, some 136, some (126, true), .call (.tmp 127) [(.tmp 131), (.tmp 135)], []⟩,
                       ⟨14, some 137, some (126, true), .op .quiet (oArith .lss (.tmp 136) (.val (.int .i64 0))), []⟩,
                       ⟨15, some 138, some (126, true), .op .quiet (oNot (.tmp 137)), []⟩,
                       ⟨16, some 139, none, .op .quiet (oPick (.tmp 126) (.tmp 138) (.val (.bool false))), []⟩])
                     (.cond (.tmp 139)
                      (.skip)
                      (.exit 8)))
                    (.block 9
                     (.ops [⟨0, some 140, none, .op .quiet (oMv (.tmp 13)), []⟩,
                       ⟨1, some 141, none, .op .quiet (oArith .sub (.tmp 140) (.val (.int .i64 1))), []⟩,
                       ⟨2, some 13, none, .op .quiet (oMv (.tmp 141)), []⟩])))))
                 (.seq
                  (.seq
                   (.ops [⟨0, some 142, none, .op .quiet (oMv (.tmp 12)), []⟩,
                     ⟨1, some 143, none, .op .quiet (oMv (.tmp 13)), []⟩,
                     ⟨2, some 144, none, .op .quiet (oArith .gtr (.tmp 142) (.tmp 143)), []⟩])
                   (.cond (.tmp 144)
                    (.exit 4)
                    (.skip)))
                  (.seq
                   (.drawn [⟨0, some 145, none, .op .quiet (oMv (.tmp 0)), []⟩,
                     ⟨1, some 146, none, .op .quiet (oMv (.tmp 12)), []⟩,
                     ⟨2, some 147, none, .op .quiet (oMv (.tmp 0)), []⟩,
                     ⟨3, some 148, none, .op .quiet (oMv (.tmp 13)), []⟩,
                     ⟨4, some 149, none, .op .quiet (oMv (.tmp 0)), []⟩,
                     ⟨5, some 150, none, .op .quiet (oMv (.tmp 13)), []⟩,
                     ⟨6, some 151, none, .op .quiet (oIdxS 1 (.tmp 149) (.tmp 150)), []⟩,
                     ⟨7, some 152, none, .op .reads (oLoad (.tmp 151)), []⟩,
                     ⟨8, some 153, none, .op .quiet (oMv (.tmp 0)), []⟩,
                     ⟨9, some 154, none, .op .quiet (oMv (.tmp 12)), []⟩,
                     ⟨10, some 155, none, .op .quiet (oIdxS 1 (.tmp 153) (.tmp 154)), []⟩,
                     ⟨11, some 156, none, .op .reads (oLoad (.tmp 155)), []⟩,
                     ⟨12, some 157, none, .op .quiet (oIdxS 1 (.tmp 145) (.tmp 146)), []⟩,
                     ⟨13, none, none, .op .hard (oStore 1 (.tmp 157) (.tmp 152)), []⟩,
                     ⟨14, some 158, none, .op .quiet (oIdxS 1 (.tmp 147) (.tmp 148)), []⟩,
                     ⟨15, none, none, .op .hard (oStore 1 (.tmp 158) (.tmp 156)), []⟩])
                   (.seq
                    (.ops [⟨0, some 159, none, .op .quiet (oMv (.tmp 12)), []⟩,
                      ⟨1, some 160, none, .op .quiet (oArith .add (.tmp 159) (.val (.int .i64 1))), []⟩,
                      ⟨2, some 12, none, .op .quiet (oMv (.tmp 160)), []⟩])
                    (.ops [⟨0, some 161, none, .op .quiet (oMv (.tmp 13)), []⟩,
                      ⟨1, some 162, none, .op .quiet (oArith .sub (.tmp 161) (.val (.int .i64 1))), []⟩,
                      ⟨2, some 13, none, .op .quiet (oMv (.tmp 162)), []⟩])))))))))
            (.seq
             (.drawn [⟨0, some 163, none, .op .quiet (oMv (.tmp 0)), []⟩,
               ⟨1, some 164, none, .op .quiet (oMv (.tmp 13)), []⟩,
               ⟨2, some 165, none, .op .quiet (oMv (.tmp 0)), []⟩,
               ⟨3, some 166, none, .op .quiet (oMv (.tmp 1)), []⟩,
               ⟨4, some 167, none, .op .quiet (oMv (.tmp 0)), []⟩,
               ⟨5, some 168, none, .op .quiet (oMv (.tmp 1)), []⟩,
               ⟨6, some 169, none, .op .quiet (oIdxS 1 (.tmp 167) (.tmp 168)), []⟩,
               ⟨7, some 170, none, .op .reads (oLoad (.tmp 169)), []⟩,
               ⟨8, some 171, none, .op .quiet (oMv (.tmp 0)), []⟩,
               ⟨9, some 172, none, .op .quiet (oMv (.tmp 13)), []⟩,
               ⟨10, some 173, none, .op .quiet (oIdxS 1 (.tmp 171) (.tmp 172)), []⟩,
               ⟨11, some 174, none, .op .reads (oLoad (.tmp 173)), []⟩,
               ⟨12, some 175, none, .op .quiet (oIdxS 1 (.tmp 163) (.tmp 164)), []⟩,
               ⟨13, none, none, .op .hard (oStore 1 (.tmp 175) (.tmp 170)), []⟩,
               ⟨14, some 176, none, .op .quiet (oIdxS 1 (.tmp 165) (.tmp 166)), []⟩,
               ⟨15, none, none, .op .hard (oStore 1 (.tmp 176) (.tmp 174)), []⟩])
             (.seq
              (.ops [⟨0, some 177, none, .op .quiet (oMv (.tmp 13)), []⟩,
                ⟨1, some 10, none, .op .quiet (oMv (.tmp 177)), []⟩,
                ⟨2, some 11, none, .op .quiet (oMv (.val (.bool false))), []⟩])
              (.ret)))))))))))))⟩
/-- slices.siftDownOrdered[int] -/
noncomputable def a374 : AF := ⟨[],
 (.seq
   (.ops [⟨0, some 10, none, .op .quiet (oMv (.tmp 1)), []⟩,
     ⟨1, some 8, none, .op .quiet (oMv (.tmp 10)), []⟩])
   (.block 0
    (.loop
     (.block 1
      (.seq
       (.ops [⟨0, some 11, none, .op .quiet (oMv (.tmp 8)), []⟩,
         ⟨1, some 12, none, .op .quiet (oArith .mul (.val (.int .i64 2)) (.tmp 11)), []⟩,
         ⟨2, some 13, none, .op .quiet (oArith .add (.tmp 12) (.val (.int .i64 1))), []⟩,
         ⟨3, some 9, none, .op .quiet (oMv (.tmp 13)), []⟩])
       (.seq
        (.seq
         (.ops [⟨0, some 14, none, .op .quiet (oMv (.tmp 9)), []⟩,
           ⟨1, some 15, none, .op .quiet (oMv (.tmp 2)), []⟩,
           ⟨2, some 16, none, .op .quiet (oArith .geq (.tmp 14) (.tmp 15)), []⟩])
         (.cond (.tmp 16)
          (.exit 0)
          (.skip)))
        (.seq
         (.seq
          (.drawn [⟨0, some 17, none, .op .quiet (oMv (.tmp 9)), []⟩,
            ⟨1, some 18, none, .op .quiet (oArith .add (.tmp 17) (.val (.int .i64 1))), []⟩,
            ⟨2, some 19, none, .op .quiet (oMv (.tmp 2)), []⟩,
            ⟨3, some 20, none, .op .quiet (oArith .lss (.tmp 18) (.tmp 19)), []⟩,
            ⟨4, some 21, none, .op .quiet (oMv (.tmp 20)), []⟩,
            ⟨5, some 22, some (21, true), .op .quiet (oMv (.tmp 0)), []⟩,
            ⟨6, some 23, some (21, true), .op .quiet (oMv (.tmp 3)), []⟩,
            ⟨7, some 24, some (21, true), .op .quiet (oMv (.tmp 9)), []⟩,
            ⟨8, some 25, some (21, true), .op .quiet (oArith .add (.tmp 23) (.tmp 24)), []⟩,
            ⟨9, some 26, some (21, true), .op .quiet (oIdxS 1 (.tmp 22) (.tmp 25)), []⟩,
            ⟨10, some 27, some (21, true), .op .reads (oLoad (.tmp 26)), []⟩,
            ⟨11, some 28, some (21, true), .op .quiet (oMv (.tmp 0)), []⟩,
            ⟨12, some 29, some (21, true), .op .quiet (oMv (.tmp 3)), []⟩,
            ⟨13, some 30, some (21, true), .op .quiet (oMv (.tmp 9)), []⟩,
            ⟨14, some 31, some (21, true), .op .quiet (oArith .add (.tmp 29) (.tmp 30)), []⟩,
            ⟨15, some 32, some (21, true), .op .quiet (oArith .add (.tmp 31) (.val (.int .i64 1))), []⟩,
            ⟨16, some 33, some (21, true), .op .quiet (oIdxS 1 (.tmp 28) (.tmp 32)), []⟩,
            ⟨17, some 34, some (21, true), .op .reads (oLoad (.tmp 33)), []⟩,
            ⟨18, some 35, some (21, true), .callF 357 [(.tmp 27), (.tmp 34)], []⟩,
            ⟨19, some 36, none, .op .quiet (oPick (.tmp 21) (.tmp 35) (.val (.bool false))), []⟩])
          (.cond (.tmp 36)
           (.ops [⟨0, some 37, none, .op .quiet (oMv (.tmp 9)), []⟩,
             ⟨1, some 38, none, .op .quiet (oArith .add (.tmp 37) (.val (.int .i64 1))), []⟩,
             ⟨2, some 9, none, .op .quiet (oMv (.tmp 38)), []⟩])
           (.skip)))
         (.seq
          (.seq
           (.drawn [⟨0, some 39, none, .op .quiet (oMv (.tmp 0)), []⟩,
             ⟨1, some 40, none, .op .quiet (oMv (.tmp 3)), []⟩,
             ⟨2, some 41, none, .op .quiet (oMv (.tmp 8)), []⟩,
             ⟨3, some 42, none, .op .quiet (oArith .add (.tmp 40) (.tmp 41)), []⟩,
             ⟨4, some 43, none, .op .quiet (oIdxS 1 (.tmp 39) (.tmp 42)), []⟩,
             ⟨5, some 44, none, .op .reads (oLoad (.tmp 43)), []⟩,
             ⟨6, some 45, none, .op .quiet (oMv (.tmp 0)), []⟩,
             ⟨7, some 46, none, .op .quiet (oMv (.tmp 3)), []⟩,
             ⟨8, some 47, none, .op .quiet (oMv (.tmp 9)), []⟩,
             ⟨9, some 48, none, .op .quiet (oArith .add (.tmp 46) (.tmp 47)), []⟩,
             ⟨10, some 49, none, .op .quiet (oIdxS 1 (.tmp 45) (.tmp 48)), []⟩,
             ⟨11, some 50, none, .op .reads (oLoad (.tmp 49)), []⟩,
             ⟨12, some 51, none, .callF 357 [(.tmp 44), (.tmp 50)], []⟩,
             ⟨13, some 52, none, .op .quiet (oNot (.tmp 51)), []⟩])
           (.cond (.tmp 52)
            (.ret)
            (.skip)))
          (.seq
           (.drawn [⟨0, some 53, none, .op .quiet (oMv (.tmp 0)), []⟩,
             ⟨1, some 54, none, .op .quiet (oMv (.tmp 3)), []⟩,
             ⟨2, some 55, none, .op .quiet (oMv (.tmp 8)), []⟩,
             ⟨3, some 56, none, .op .quiet (oArith .add (.tmp 54) (.tmp 55)), []⟩,
             ⟨4, some 57, none, .op .quiet (oMv (.tmp 0)), []⟩,
             ⟨5, some 58, none, .op .quiet (oMv (.tmp 3)), []⟩,
             ⟨6, some 59, none, .op .quiet (oMv (.tmp 9)), []⟩,
             ⟨7, some 60, none, .op .quiet (oArith .add (.tmp 58) (.tmp 59)), []⟩,
             ⟨8, some 61, none, .op .quiet (oMv (.tmp 0)), []⟩,
             ⟨9, some 62, none, .op .quiet (oMv (.tmp 3)), []⟩,
             ⟨10, some 63, none, .op .quiet (oMv (.tmp 9)), []⟩,
             ⟨11, some 64, none, .op .quiet (oArith .add (.tmp 62) (.tmp 63)), []⟩,
             ⟨12, some 65, none, .op .quiet (oIdxS 1 (.tmp 61) (.tmp 64)), []⟩,
             ⟨13, some 66, none, .op .reads (oLoad (.tmp 65)), []⟩,
             ⟨14, some 67, none, .op .quiet (oMv (.tmp 0)), []⟩,
             ⟨15, some 68, none, .op .quiet (oMv (.tmp 3)), []⟩,
             ⟨16, some 69, none, .op .quiet (oMv (.tmp 8)), []⟩,
             ⟨17, some 70, none, .op .quiet (oArith .add (.tmp 68) (.tmp 69)), []⟩,
             ⟨18, some 71, none, .op .quiet (oIdxS 1 (.tmp 67) (.tmp 70)), []⟩,
             ⟨19, some 72, none, .op .reads (oLoad (.tmp 71)), []⟩,
             ⟨20, some 73, none, .op .quiet (oIdxS 1 (.tmp 53) (.tmp 56)), []⟩,
             ⟨21, none, none, .op .hard (oStore 1 (.tmp 73) (.tmp 66)), []⟩,
             ⟨22, some 74, none, .op .quiet (oIdxS 1 (.tmp 57) (.tmp 60)), []⟩,
             ⟨23, none, none, .op .hard (oStore 1 (.tmp 74) (.tmp 72)), []⟩])
           (.ops [⟨0, some 75, none, .op .quiet (oMv (.tmp 9)), []⟩,
             ⟨1, some 8, none, .op .quiet (oMv (.tmp 75)), []⟩]))))))))))⟩
/-- slices.medianAdjacentOrdered[int] -/
noncomputable def a375 : AF := ⟨[.tmp 6],
 (.seq
   (.ops [⟨0, some 6, none, .op .quiet (oMv (.val (.int .i64 0))), []⟩])
   (.seq
    (.ops [⟨0, some 7, none, .op .quiet (oMv (.tmp 0)), []⟩,
      ⟨1, some 8, none, .op .quiet (oMv (.tmp 1)), []⟩,
      ⟨2, some 9, none, .op .quiet (oArith .sub (.tmp 8) (.val (.int .i64 1))), []⟩,
      ⟨3, some 10, none, .op .quiet (oMv (.tmp 1)), []⟩,
      ⟨4, some 11, none, .op .quiet (oMv (.tmp 1)), []⟩,
      ⟨5, some 12, none, .op .quiet (oArith .add (.tmp 11) (.val (.int .i64 1))), []⟩,
      ⟨6, some 13, none, .op .quiet (oMv (.tmp 2)), []⟩,
      ⟨7, some 14, none, .callF 376 [(.tmp 7), (.tmp 9), (.tmp 10), (.tmp 12), (.tmp 13)], []⟩,
      ⟨8, some 6, none, .op .quiet (oMv (.tmp 14)), []⟩])
    (.ret)))⟩
/-- slices.medianOrdered[int] -/
noncomputable def a376 : AF := ⟨[.tmp 10],
 (.seq
   (.ops [⟨0, some 10, none, .op .quiet (oMv (.val (.int .i64 0))), []⟩])
   (.seq
    (.ops [⟨0, some 12, none, .op .quiet (oMv (.tmp 0)), []⟩,
      ⟨1, some 13, none, .op .quiet (oMv (.tmp 1)), []⟩,
      ⟨2, some 14, none, .op .quiet (oMv (.tmp 2)), []⟩,
      ⟨3, some 15, none, .op .quiet (oMv (.tmp 4)), []⟩,
      ⟨4, some 16, none, .callF 381 [(.tmp 12), (.tmp 13), (.tmp 14), (.tmp 15)], []⟩,
      ⟨5, some 11, none, .op .quiet (oMv (.tmp 16)), []⟩,
      ⟨6, some 17, none, .op .quiet (oExtract 0 (.tmp 11)), []⟩,
      ⟨7, some 18, none, .op .quiet (oExtract 1 (.tmp 11)), []⟩,
      ⟨8, some 1, none, .op .quiet (oMv (.tmp 17)), []⟩,
      ⟨9, some 2, none, .op .quiet (oMv (.tmp 18)), []⟩])
    (.seq
     (.ops [⟨0, some 20, none, .op .quiet (oMv (.tmp 0)), []⟩,
       ⟨1, some 21, none, .op .quiet (oMv (.tmp 2)), []⟩,
       ⟨2, some 22, none, .op .quiet (oMv (.tmp 3)), []⟩,
       ⟨3, some 23, none, .op .quiet (oMv (.tmp 4)), []⟩,
       ⟨4, some 24, none, .callF 381 [(.tmp 20), (.tmp 21), (.tmp 22), (.tmp 23)], []⟩,
       ⟨5, some 19, none, .op .quiet (oMv (.tmp 24)), []⟩,
       ⟨6, some 25, none, .op .quiet (oExtract 0 (.tmp 19)), []⟩,
       ⟨7, some 26, none, .op .quiet (oExtract 1 (.tmp 19)), []⟩,
       ⟨8, some 2, none, .op .quiet (oMv (.tmp 25)), []⟩,
       ⟨9, some 3, none, .op .quiet (oMv (.tmp 26)), []⟩])
     (.seq
      (.ops [⟨0, some 28, none, .op .quiet (oMv (.tmp 0)), []⟩,
        ⟨1, some 29, none, .op .quiet (oMv (.tmp 1)), []⟩,
        ⟨2, some 30, none, .op .quiet (oMv (.tmp 2)), []⟩,
        ⟨3, some 31, none, .op .quiet (oMv (.tmp 4)), []⟩,
        ⟨4, some 32, none, .callF 381 [(.tmp 28), (.tmp 29), (.tmp 30), (.tmp 31)], []⟩,
        ⟨5, some 27, none, .op .quiet (oMv (.tmp 32)), []⟩,
        ⟨6, some 33, none, .op .quiet (oExtract 0 (.tmp 27)), []⟩,
        ⟨7, some 34, none, .op .quiet (oExtract 1 (.tmp 27)), []⟩,
        ⟨8, some 1, none, .op .quiet (oMv (.tmp 33)), []⟩,
        ⟨9, some 2, none, .op .quiet (oMv (.tmp 34)), []⟩])
      (.seq
       (.ops [⟨0, some 35, none, .op .quiet (oMv (.tmp 2)), []⟩,
         ⟨1, some 10, none, .op .quiet (oMv (.tmp 35)), []⟩])
       (.ret))))))⟩
/-- slices.siftDownCmpFunc[int] -/
noncomputable def a378 : AF := ⟨[],
 (.seq
   (.ops [⟨0, some 12, none, .op .quiet (oMv (.tmp 1)), []⟩,
     ⟨1, some 10, none, .op .quiet (oMv (.tmp 12)), []⟩])
   (.block 0
    (.loop
     (.block 1
      (.seq
       (.ops [⟨0, some 13, none, .op .quiet (oMv (.tmp 10)), []⟩,
         ⟨1, some 14, none, .op .quiet (oArith .mul (.val (.int .i64 2)) (.tmp 13)), []⟩,
         ⟨2, some 15, none, .op .quiet (oArith .add (.tmp 14) (.val (.int .i64 1))), []⟩,
         ⟨3, some 11, none, .op .quiet (oMv (.tmp 15)), []⟩])
       (.seq
        (.seq
         (.ops [⟨0, some 16, none, .op .quiet (oMv (.tmp 11)), []⟩,
           ⟨1, some 17, none, .op .quiet (oMv (.tmp 2)), []⟩,
           ⟨2, some 18, none, .op .quiet (oArith .geq (.tmp 16) (.tmp 17)), []⟩])
         (.cond (.tmp 18)
          (.exit 0)
          (.skip)))
        (.seq
         (.seq
          (.drawn [⟨0, some 19, none, .op .quiet (oMv (.tmp 11)), []⟩,
            ⟨1, some 20, none, .op .quiet (oArith .add (.tmp 19) (.val (.int .i64 1))), []⟩,
            ⟨2, some 21, none, .op .quiet (oMv (.tmp 2)), []⟩,
            ⟨3, some 22, none, .op .quiet (oArith .lss (.tmp 20) (.tmp 21)), []⟩,
            ⟨4, some 23, none, .op .quiet (oMv (.tmp 22)), []⟩,
            ⟨5, some 24, some (23, true), .op .quiet (oMv (.tmp 4)), []⟩,
            ⟨6, some 25, some (23, true), .op .quiet (oMv (.tmp 0)), []⟩,
            ⟨7, some 26, some (23, true), .op .quiet (oMv (.tmp 3)), []⟩,
            ⟨8, some 27, some (23, true), .op .quiet (oMv (.tmp 11)), []⟩,
            ⟨9, some 28, some (23, true), .op .quiet (oArith .add (.tmp 26) (.tmp 27)), []⟩,
            ⟨10, some 29, some (23, true), .op .quiet (oIdxS 1 (.tmp 25) (.tmp 28)), []⟩,
            ⟨11, some 30, some (23, true), .op .reads (oLoad (.tmp 29)), []⟩,
            ⟨12, some 31, some (23, true), .op .quiet (oMv (.tmp 0)), []⟩,
            ⟨13, some 32, some (23, true), .op .quiet (oMv (.tmp 3)), []⟩,
            ⟨14, some 33, some (23, true), .op .quiet (oMv (.tmp 11)), []⟩,
            ⟨15, some 34, some (23, true), .op .quiet (oArith .add (.tmp 32) (.tmp 33)), []⟩,
            ⟨16, some 35, some (23, true), .op .quiet (oArith .add (.tmp 34) (.val (.int .i64 1))), []⟩,
            ⟨17, some 36, some (23, true), .op .quiet (oIdxS 1 (.tmp 31) (.tmp 35)), []⟩,
            ⟨18, some 37, some (23, true), .op .reads (oLoad (.tmp 36)), []⟩,
            ⟨19, some 38, some (23, true), .call (.tmp 24) [(.tmp 30), (.tmp 37)], []⟩,
            ⟨20, some 39, some (23, true), .op .quiet (oArith .lss (.tmp 38) (.val (.int .i64 0))), []⟩,
            ⟨21, some 40, none, .op .quiet (oPick (.tmp 23) (.tmp 39) (.val (.bool false))), []⟩])
          (.cond (.tmp 40)
           (.ops [⟨0, some 41, none, .op .quiet (oMv (.tmp 11)), []⟩,
             ⟨1, some 42, none, .op .quiet (oArith .add (.tmp 41) (.val (.int .i64 1))), []⟩,
             ⟨2, some 11, none, .op .quiet (oMv (.tmp 42)), []⟩])
           (.skip)))
         (.seq
          (.seq
           (.drawn [⟨0, some 43, none, .op .quiet (oMv (.tmp 4)), []⟩,
             ⟨1, some 44, none, .op .quiet (oMv (.tmp 0)), []⟩,
             ⟨2, some 45, none, .op .quiet (oMv (.tmp 3)), []⟩,
             ⟨3, some 46, none, .op .quiet (oMv (.tmp 10)), []⟩,
             ⟨4, some 47, none, .op .quiet (oArith .add (.tmp 45) (.tmp 46)), []⟩,
             ⟨5, some 48, none, .op .quiet (oIdxS 1 (.tmp 44) (.tmp 47)), []⟩,
             ⟨6, some 49, none, .op .reads (oLoad (.tmp 48)), []⟩,
             ⟨7, some 50, none, .op .quiet (oMv (.tmp 0)), []⟩,
             ⟨8, some 51, none, .op .quiet (oMv (.tmp 3)), []⟩,
             ⟨9, some 52, none, .op .quiet (oMv (.tmp 11)), []⟩,
             ⟨10, some 53, none, .op .quiet (oArith .add (.tmp 51) (.tmp 52)), []⟩,
             ⟨11, some 54, none, .op .quiet (oIdxS 1 (.tmp 50) (.tmp 53)), []⟩,
             ⟨12, some 55, none, .op .reads (oLoad (.tmp 54)), []⟩,
             ⟨13, some 56, none, .call (.tmp 43) [(.tmp 49), (.tmp 55)], []⟩,
             ⟨14, some 57, none, .op .quiet (oArith .lss (.tmp 56) (.val (.int .i64 0))), []⟩,
             ⟨15, some 58, none, .op .quiet (oNot (.tmp 57)), []⟩])
           (.cond (.tmp 58)
            (.ret)
            (.skip)))
          (.seq
           (.drawn [⟨0, some 59, none, .op .quiet (oMv (.tmp 0)), []⟩,
             ⟨1, some 60, none, .op .quiet (oMv (.tmp 3)), []⟩,
             ⟨2, some 61, none, .op .quiet (oMv (.tmp 10)), []⟩,
             ⟨3, some 62, none, .op .quiet (oArith .add (.tmp 60) (.tmp 61)), []⟩,
             ⟨4, some 63, none, .op .quiet (oMv (.tmp 0)), []⟩,
             ⟨5, some 64, none, .op .quiet (oMv (.tmp 3)), []⟩,
             ⟨6, some 65, none, .op .quiet (oMv (.tmp 11)), []⟩,
             ⟨7, some 66, none, .op .quiet (oArith .add (.tmp 64) (.tmp 65)), []⟩,
             ⟨8, some 67, none, .op .quiet (oMv (.tmp 0)), []⟩,
             ⟨9, some 68, none, .op .quiet (oMv (.tmp 3)), []⟩,
             ⟨10, some 69, none, .op .quiet (oMv (.tmp 11)), []⟩,
             ⟨11, some 70, none, .op .quiet (oArith .add (.tmp 68) (.tmp 69)), []⟩,
             ⟨12, some 71, none, .op .quiet (oIdxS 1 (.tmp 67) (.tmp 70)), []⟩,
             ⟨13, some 72, none, .op .reads (oLoad (.tmp 71)), []⟩,
             ⟨14, some 73, none, .op .quiet (oMv (.tmp 0)), []⟩,
             ⟨15, some 74, none, .op .quiet (oMv (.tmp 3)), []⟩,
             ⟨16, some 75, none, .op .quiet (oMv (.tmp 10)), []⟩,
             ⟨17, some 76, none, .op .quiet (oArith .add (.tmp 74) (.tmp 75)), []⟩,
             ⟨18, some 77, none, .op .quiet (oIdxS 1 (.tmp 73) (.tmp 76)), []⟩,
             ⟨19, some 78, none, .op .reads (oLoad (.tmp 77)), []⟩,
             ⟨20, some 79, none, .op .quiet (oIdxS 1 (.tmp 59) (.tmp 62)), []⟩,
             ⟨21, none, none, .op .hard (oStore 1 (.tmp 79) (.tmp 72)), []⟩,
             ⟨22, some 80, none, .op .quiet (oIdxS 1 (.tmp 63) (.tmp 66)), []⟩,
             ⟨23, none, none, .op .hard (oStore 1 (.tmp 80) (.tmp 78)), []⟩])
           (.ops [⟨0, some 81, none, .op .quiet (oMv (.tmp 11)), []⟩,
             ⟨1, some 10, none, .op .quiet (oMv (.tmp 81)), []⟩]))))))))))⟩
/-- slices.medianAdjacentCmpFunc[int] -/
noncomputable def a379 : AF := ⟨[.tmp 8],
 (.seq
   (.ops [⟨0, some 8, none, .op .quiet (oMv (.val (.int .i64 0))), []⟩])
   (.seq
    (.ops [⟨0, some 9, none, .op .quiet (oMv (.tmp 0)), []⟩,
      ⟨1, some 10, none, .op .quiet (oMv (.tmp 1)), []⟩,
      ⟨2, some 11, none, .op .quiet (oArith .sub (.tmp 10) (.val (.int .i64 1))), []⟩,
      ⟨3, some 12, none, .op .quiet (oMv (.tmp 1)), []⟩,
      ⟨4, some 13, none, .op .quiet (oMv (.tmp 1)), []⟩,
      ⟨5, some 14, none, .op .quiet (oArith .add (.tmp 13) (.val (.int .i64 1))), []⟩,
      ⟨6, some 15, none, .op .quiet (oMv (.tmp 2)), []⟩,
      ⟨7, some 16, none, .op .quiet (oMv (.tmp 3)), []⟩,
      ⟨8, some 17, none, .callF 380 [(.tmp 9), (.tmp 11), (.tmp 12), (.tmp 14), (.tmp 15), (.tmp 16)], []⟩,
      ⟨9, some 8, none, .op .quiet (oMv (.tmp 17)), []⟩])
    (.ret)))⟩
/-- slices.medianCmpFunc[int] -/
noncomputable def a380 : AF := ⟨[.tmp 12],
 (.seq
   (.ops [⟨0, some 12, none, .op .quiet (oMv (.val (.int .i64 0))), []⟩])
   (.seq
    (.ops [⟨0, some 14, none, .op .quiet (oMv (.tmp 0)), []⟩,
      ⟨1, some 15, none, .op .quiet (oMv (.tmp 1)), []⟩,
      ⟨2, some 16, none, .op .quiet (oMv (.tmp 2)), []⟩,
      ⟨3, some 17, none, .op .quiet (oMv (.tmp 4)), []⟩,
      ⟨4, some 18, none, .op .quiet (oMv (.tmp 5)), []⟩,
      ⟨5, some 19, none, .callF 382 [(.tmp 14), (.tmp 15), (.tmp 16), (.tmp 17), (.tmp 18)], []⟩,
      ⟨6, some 13, none, .op .quiet (oMv (.tmp 19)), []⟩,
      ⟨7, some 20, none, .op .quiet (oExtract 0 (.tmp 13)), []⟩,
      ⟨8, some 21, none, .op .quiet (oExtract 1 (.tmp 13)), []⟩,
      ⟨9, some 1, none, .op .quiet (oMv (.tmp 20)), []⟩,
      ⟨10, some 2, none, .op .quiet (oMv (.tmp 21)), []⟩])
    (.seq
     (.ops [⟨0, some 23, none, .op .quiet (oMv (.tmp 0)), []⟩,
       ⟨1, some 24, none, .op .quiet (oMv (.tmp 2)), []⟩,
       ⟨2, some 25, none, .op .quiet (oMv (.tmp 3)), []⟩,
       ⟨3, some 26, none, .op .quiet (oMv (.tmp 4)), []⟩,
       ⟨4, some 27, none, .op .quiet (oMv (.tmp 5)), []⟩,
       ⟨5, some 28, none, .callF 382 [(.tmp 23), (.tmp 24), (.tmp 25), (.tmp 26), (.tmp 27)], []⟩,
       ⟨6, some 22, none, .op .quiet (oMv (.tmp 28)), []⟩,
       ⟨7, some 29, none, .op .quiet (oExtract 0 (.tmp 22)), []⟩,
       ⟨8, some 30, none, .op .quiet (oExtract 1 (.tmp 22)), []⟩,
       ⟨9, some 2, none, .op .quiet (oMv (.tmp 29)), []⟩,
       ⟨10, some 3, none, .op .quiet (oMv (.tmp 30)), []⟩])
     (.seq
      (.ops [⟨0, some 32, none, .op .quiet (oMv (.tmp 0)), []⟩,
        ⟨1, some 33, none, .op .quiet (oMv (.tmp 1)), []⟩,
        ⟨2, some 34, none, .op .quiet (oMv (.tmp 2)), []⟩,
        ⟨3, some 35, none, .op .quiet (oMv (.tmp 4)), []⟩,
        ⟨4, some 36, none, .op .quiet (oMv (.tmp 5)), []⟩,
        ⟨5, some 37, none, .callF 382 [(.tmp 32), (.tmp 33), (.tmp 34), (.tmp 35), (.tmp 36)], []⟩,
        ⟨6, some 31, none, .op .quiet (oMv (.tmp 37)), []⟩,
        ⟨7, some 38, none, .op .quiet (oExtract 0 (.tmp 31)), []⟩,
        ⟨8, some 39, none, .op .quiet (oExtract 1 (.tmp 31)), []⟩,
        ⟨9, some 1, none, .op .quiet (oMv (.tmp 38)), []⟩,
        ⟨10, some 2, none, .op .quiet (oMv (.tmp 39)), []⟩])
      (.seq
       (.ops [⟨0, some 40, none, .op .quiet (oMv (.tmp 2)), []⟩,
         ⟨1, some 12, none, .op .quiet (oMv (.tmp 40)), []⟩])
       (.ret))))))⟩
/-- slices.order2Ordered[int] -/
noncomputable def a381 : AF := ⟨[.tmp 8, .tmp 9],
 (.seq
   (.ops [⟨0, some 8, none, .op .quiet (oMv (.val (.int .i64 0))), []⟩,
     ⟨1, some 9, none, .op .quiet (oMv (.val (.int .i64 0))), []⟩])
   (.seq
    (.seq
     (.drawn [⟨0, some 10, none, .op .quiet (oMv (.tmp 0)), []⟩,
       ⟨1, some 11, none, .op .quiet (oMv (.tmp 2)), []⟩,
       ⟨2, some 12, none, .op .quiet (oIdxS 1 (.tmp 10) (.tmp 11)), []⟩,
       ⟨3, some 13, none, .op .reads (oLoad (.tmp 12)), []⟩,
       ⟨4, some 14, none, .op .quiet (oMv (.tmp 0)), []⟩,
       ⟨5, some 15, none, .op .quiet (oMv (.tmp 1)), []⟩,
       ⟨6, some 16, none, .op .quiet (oIdxS 1 (.tmp 14) (.tmp 15)), []⟩,
       ⟨7, some 17, none, .op .reads (oLoad (.tmp 16)), []⟩,
       ⟨8, some 18, none, .callF 357 [(.tmp 13), (.tmp 17)], []⟩])
     (.cond (.tmp 18)
      (.seq
       (.ops [⟨0, some 19, none, .op .quiet (oMv (.tmp 3)), []⟩,
         ⟨1, some 20, none, .op .quiet (oNilCheck (.tmp 19)), []⟩,
         ⟨2, some 21, none, .op .reads (oLoad (.tmp 20)), []⟩,
         ⟨3, some 22, none, .op .quiet (oArith .add (.tmp 21) (.val (.int .i64 1))), []⟩,
         ⟨4, some 23, none, .op .quiet (oNilCheck (.tmp 19)), []⟩,
         ⟨5, none, none, .op .hard (oStore 1 (.tmp 23) (.tmp 22)), []⟩])
       (.seq
        (.ops [⟨0, some 24, none, .op .quiet (oMv (.tmp 2)), []⟩,
          ⟨1, some 25, none, .op .quiet (oMv (.tmp 1)), []⟩,
          ⟨2, some 8, none, .op .quiet (oMv (.tmp 24)), []⟩,
          ⟨3, some 9, none, .op .quiet (oMv (.tmp 25)), []⟩])
        (.ret)))
      (.skip)))
    (.seq
     (.ops [⟨0, some 26, none, .op .quiet (oMv (.tmp 1)), []⟩,
       ⟨1, some 27, none, .op .quiet (oMv (.tmp 2)), []⟩,
       ⟨2, some 8, none, .op .quiet (oMv (.tmp 26)), []⟩,
       ⟨3, some 9, none, .op .quiet (oMv (.tmp 27)), []⟩])
     (.ret))))⟩
/-- slices.order2CmpFunc[int] -/
noncomputable def a382 : AF := ⟨[.tmp 10, .tmp 11],
 (.seq
   (.ops [⟨0, some 10, none, .op .quiet (oMv (.val (.int .i64 0))), []⟩,
     ⟨1, some 11, none, .op .quiet (oMv (.val (.int .i64 0))), []⟩])
   (.seq
    (.seq
     (.drawn [⟨0, some 12, none, .op .quiet (oMv (.tmp 4)), []⟩,
       ⟨1, some 13, none, .op .quiet (oMv (.tmp 0)), []⟩,
       ⟨2, some 14, none, .op .quiet (oMv (.tmp 2)), []⟩,
       ⟨3, some 15, none, .op .quiet (oIdxS 1 (.tmp 13) (.tmp 14)), []⟩,
       ⟨4, some 16, none, .op .reads (oLoad (.tmp 15)), []⟩,
       ⟨5, some 17, none, .op .quiet (oMv (.tmp 0)), []⟩,
       ⟨6, some 18, none, .op .quiet (oMv (.tmp 1)), []⟩,
       ⟨7, some 19, none, .op .quiet (oIdxS 1 (.tmp 17) (.tmp 18)), []⟩,
       ⟨8, some 20, none, .op .reads (oLoad (.tmp 19)), []⟩,
       ⟨9, some 21, none, .call (.tmp 12) [(.tmp 16), (.tmp 20)], []⟩,
       ⟨10, some 22, none, .op .quiet (oArith .lss (.tmp 21) (.val (.int .i64 0))), []⟩])
     (.cond (.tmp 22)
      (.seq
       (.ops [⟨0, some 23, none, .op .quiet (oMv (.tmp 3)), []⟩,
         ⟨1, some 24, none, .op .quiet (oNilCheck (.tmp 23)), []⟩,
         ⟨2, some 25, none, .op .reads (oLoad (.tmp 24)), []⟩,
         ⟨3, some 26, none, .op .quiet (oArith .add (.tmp 25) (.val (.int .i64 1))), []⟩,
         ⟨4, some 27, none, .op .quiet (oNilCheck (.tmp 23)), []⟩,
         ⟨5, none, none, .op .hard (oStore 1 (.tmp 27) (.tmp 26)), []⟩])
       (.seq
        (.ops [⟨0, some 28, none, .op .quiet (oMv (.tmp 2)), []⟩,
          ⟨1, some 29, none, .op .quiet (oMv (.tmp 1)), []⟩,
          ⟨2, some 10, none, .op .quiet (oMv (.tmp 28)), []⟩,
          ⟨3, some 11, none, .op .quiet (oMv (.tmp 29)), []⟩])
        (.ret)))
      (.skip)))
    (.seq
     (.ops [⟨0, some 30, none, .op .quiet (oMv (.tmp 1)), []⟩,
       ⟨1, some 31, none, .op .quiet (oMv (.tmp 2)), []⟩,
       ⟨2, some 10, none, .op .quiet (oMv (.tmp 30)), []⟩,
       ⟨3, some 11, none, .op .quiet (oMv (.tmp 31)), []⟩])
     (.ret))))⟩
end Go.Proofs.YtjfppkhaiooloaaGreatDoor.Gs

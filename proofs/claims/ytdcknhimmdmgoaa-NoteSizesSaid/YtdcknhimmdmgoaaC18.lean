/- The abstract code of the functions, as a program of ours wrote it from the print of the program. -/
import Derived.Test.YtdcknhimmdmgoaaAb
namespace Go.Proofs.Ytdcknhimmdmgoaa.Ab
open Go
/-- stillage/stillagelaw18.NoteSizes -/
def c_stillagelaw18_NoteSizes : AFun := ⟨1, [.t 2],
 (.seq
  (.reg [⟨(some 1), none, .box 4 (.t 0)⟩,
     ⟨(some 2), none, .mv (.c (.b false))⟩]
    [1])
  (.seq
   (.seq
    (.reg [⟨(some 8), none, .call 0 []⟩,
       ⟨(some 9), none, .not (.t 8)⟩]
      [1, 9])
    (.cond (.t 9)
     (.seq
      (.reg [⟨(some 2), none, .mv (.c (.b false))⟩]
        [2])
      .ret)
     .skip))
   (.seq
    (.reg [⟨(some 11), none, .ld (some 4) (.t 1)⟩,
       ⟨(some 12), none, .call 1 [(.t 11)]⟩,
       ⟨(some 10), none, .mv (.t 12)⟩,
       ⟨(some 13), none, .ext 0 (.t 10)⟩,
       ⟨(some 14), none, .ext 1 (.t 10)⟩,
       ⟨(some 3), none, .mv (.t 13)⟩,
       ⟨(some 4), none, .mv (.t 14)⟩]
      [1, 3, 4])
    (.seq
     (.seq
      (.reg [⟨(some 15), none, .mv (.t 4)⟩,
         ⟨(some 16), none, .bin .neq (.t 15) (.c (.i .i64 0))⟩]
        [1, 3, 16])
      (.cond (.t 16)
       (.seq
        (.reg [⟨(some 17), none, .mv (.t 3)⟩,
           ⟨(some 18), none, .len .sl (.t 17)⟩,
           ⟨(some 19), none, .bin .eql (.t 18) (.c (.i .i64 0))⟩,
           ⟨(some 2), none, .mv (.t 19)⟩]
          [2])
        .ret)
       .skip))
     (.seq
      (.reg [⟨(some 5), none, .mv (.c (.i .i64 4))⟩]
        [1, 3, 5])
      (.seq
       (.seq
        (.reg [⟨(some 20), none, .fa 1 (.t 1)⟩,
           ⟨(some 21), none, .ld none (.t 20)⟩,
           ⟨(some 22), none, .fa 2 (.t 1)⟩,
           ⟨(some 23), none, .ld none (.t 22)⟩,
           ⟨(some 24), none, .fa 3 (.t 1)⟩,
           ⟨(some 25), none, .ld none (.t 24)⟩,
           ⟨(some 26), none, .build [(.i .i64 0), (.i .i64 0), (.i .i64 0)] [(0, 1, (.t 21)), (1, 1, (.t 23)), (2, 1, (.t 25))]⟩,
           ⟨(some 27), none, .mv (.c (.i .i64 0))⟩]
          [1, 3, 5, 26, 27])
        (.block 0
         (.loop
          (.seq
           (.reg [⟨(some 28), none, .bin .lss (.t 27) (.c (.i .i64 3))⟩]
             [1, 3, 5, 26, 27, 28])
           (.seq
            (.cond (.t 28)
             .skip
             (.exit 0))
            (.seq
             (.block 1
              (.seq
               (.reg [⟨(some 29), none, .mv (.t 27)⟩,
                  ⟨(some 30), none, .ix 3 1 false (.t 26) (.t 27)⟩,
                  ⟨(some 6), none, .mv (.t 29)⟩,
                  ⟨(some 7), none, .mv (.t 30)⟩]
                 [1, 3, 5, 6, 7, 26, 27])
               (.seq
                (.seq
                 (.reg [⟨(some 31), none, .mv (.t 6)⟩,
                    ⟨(some 32), none, .fa 0 (.t 1)⟩,
                    ⟨(some 33), none, .ld none (.t 32)⟩,
                    ⟨(some 34), none, .call 2 [(.t 33)]⟩,
                    ⟨(some 35), none, .bin .geq (.t 31) (.t 34)⟩]
                   [1, 3, 5, 7, 26, 27, 35])
                 (.cond (.t 35)
                  (.exit 0)
                  .skip))
                (.seq
                 (.reg [⟨(some 36), none, .mv (.t 5)⟩,
                    ⟨(some 37), none, .bin .add (.t 36) (.c (.i .i64 1))⟩,
                    ⟨(some 5), none, .mv (.t 37)⟩]
                   [1, 3, 5, 7, 26, 27])
                 (.block 2
                  (.loop
                   (.seq
                    (.seq
                     (.reg [⟨(some 38), none, .mv (.t 7)⟩,
                        ⟨(some 39), none, .bin .geq (.t 38) (.c (.i .i64 128))⟩]
                       [1, 3, 5, 7, 26, 27, 39])
                     (.cond (.t 39)
                      .skip
                      (.exit 2)))
                    (.seq
                     (.block 3
                      (.reg [⟨(some 42), none, .mv (.t 5)⟩,
                         ⟨(some 43), none, .bin .add (.t 42) (.c (.i .i64 1))⟩,
                         ⟨(some 5), none, .mv (.t 43)⟩]
                        [1, 3, 5, 7, 26, 27]))
                     (.reg [⟨(some 40), none, .mv (.t 7)⟩,
                        ⟨(some 41), none, .bin .quo (.t 40) (.c (.i .i64 128))⟩,
                        ⟨(some 7), none, .mv (.t 41)⟩]
                       [1, 3, 5, 7, 26, 27])))))))))
             (.reg [⟨(some 44), none, .bin .add (.t 27) (.c (.i .i64 1))⟩,
                ⟨(some 27), none, .mv (.t 44)⟩]
               [1, 3, 5, 26, 27])))))))
       (.seq
        (.regd [⟨(some 45), none, .mv (.t 3)⟩,
           ⟨(some 46), none, .len .sl (.t 45)⟩,
           ⟨(some 47), none, .mv (.t 5)⟩,
           ⟨(some 48), none, .bin .eql (.t 46) (.t 47)⟩,
           ⟨(some 49), none, .mv (.t 48)⟩,
           ⟨(some 50), (some (49, true)), .mv (.t 3)⟩,
           ⟨(some 51), (some (49, true)), .ia 1 (.t 50) (.c (.i .i64 0))⟩,
           ⟨(some 52), (some (49, true)), .ld none (.t 51)⟩,
           ⟨(some 53), (some (49, true)), .toInt .i64 (.t 52)⟩,
           ⟨(some 54), (some (49, true)), .mv (.t 5)⟩,
           ⟨(some 55), (some (49, true)), .bin .sub (.t 54) (.c (.i .i64 3))⟩,
           ⟨(some 56), (some (49, true)), .bin .eql (.t 53) (.t 55)⟩,
           ⟨(some 57), none, .pick (.t 49) (.t 56) (.c (.b false))⟩,
           ⟨(some 58), none, .mv (.t 57)⟩,
           ⟨(some 59), (some (58, true)), .mv (.t 3)⟩,
           ⟨(some 60), (some (58, true)), .ia 1 (.t 59) (.c (.i .i64 1))⟩,
           ⟨(some 61), (some (58, true)), .ld none (.t 60)⟩,
           ⟨(some 62), (some (58, true)), .toInt .i64 (.t 61)⟩,
           ⟨(some 63), (some (58, true)), .fa 0 (.t 1)⟩,
           ⟨(some 64), (some (58, true)), .ld none (.t 63)⟩,
           ⟨(some 65), (some (58, true)), .bin .eql (.t 62) (.t 64)⟩,
           ⟨(some 66), none, .pick (.t 58) (.t 65) (.c (.b false))⟩,
           ⟨(some 2), none, .mv (.t 66)⟩]
          [] [2])
        .ret)))))))⟩
/-- stillage/stillagelaw18.NoteMany -/
def c_stillagelaw18_NoteMany : AFun := ⟨1, [.t 2],
 (.seq
  (.reg [⟨(some 2), none, .mv (.c (.b false))⟩]
    [0])
  (.seq
   (.seq
    (.reg [⟨(some 8), none, .call 0 []⟩,
       ⟨(some 9), none, .not (.t 8)⟩,
       ⟨(some 10), none, .mv (.t 9)⟩,
       ⟨(some 11), (some (10, false)), .mv (.t 0)⟩,
       ⟨(some 12), (some (10, false)), .len .sl (.t 11)⟩,
       ⟨(some 13), (some (10, false)), .bin .gtr (.t 12) (.c (.i .i64 100))⟩,
       ⟨(some 14), none, .pick (.t 10) (.c (.b true)) (.t 13)⟩]
      [0, 14])
    (.cond (.t 14)
     (.seq
      (.reg [⟨(some 15), none, .call 0 []⟩,
         ⟨(some 2), none, .mv (.t 15)⟩]
        [2])
      .ret)
     .skip))
   (.seq
    (.reg [⟨(some 16), none, .bsl 4 0 [] []⟩,
       ⟨(some 17), none, .mv (.t 0)⟩,
       ⟨(some 18), none, .app 4 32 (.t 16) (.t 17)⟩,
       ⟨(some 3), none, .mv (.t 18)⟩]
      [0, 3])
    (.seq
     (.reg [⟨(some 20), none, .mv (.t 3)⟩,
        ⟨(some 21), none, .call 3 [(.t 20)]⟩,
        ⟨(some 19), none, .mv (.t 21)⟩,
        ⟨(some 22), none, .ext 0 (.t 19)⟩,
        ⟨(some 23), none, .ext 1 (.t 19)⟩,
        ⟨(some 4), none, .mv (.t 22)⟩,
        ⟨(some 5), none, .mv (.t 23)⟩]
       [0, 3, 4, 5])
     (.seq
      (.reg [⟨(some 6), none, .mv (.c .nils)⟩]
        [0, 3, 4, 5, 6])
      (.seq
       (.seq
        (.reg [⟨(some 24), none, .mv (.t 0)⟩,
           ⟨(some 25), none, .len .sl (.t 24)⟩,
           ⟨(some 26), none, .mv (.c (.i .i64 0))⟩]
          [0, 3, 4, 5, 6, 25, 26])
        (.block 0
         (.loop
          (.seq
           (.reg [⟨(some 27), none, .bin .lss (.t 26) (.t 25)⟩]
             [0, 3, 4, 5, 6, 25, 26, 27])
           (.seq
            (.cond (.t 27)
             .skip
             (.exit 0))
            (.seq
             (.block 1
              (.seq
               (.reg [⟨(some 28), none, .mv (.t 26)⟩,
                  ⟨(some 7), none, .mv (.t 28)⟩]
                 [0, 3, 4, 5, 6, 7, 25, 26])
               (.seq
                (.seq
                 (.reg [⟨(some 29), none, .mv (.t 0)⟩,
                    ⟨(some 30), none, .mv (.t 7)⟩,
                    ⟨(some 31), none, .ia 4 (.t 29) (.t 30)⟩,
                    ⟨(some 32), none, .ld (some 4) (.t 31)⟩,
                    ⟨(some 33), none, .call 4 [(.t 32)]⟩,
                    ⟨(some 34), none, .not (.t 33)⟩]
                   [0, 3, 4, 5, 6, 7, 25, 26, 34])
                 (.cond (.t 34)
                  (.seq
                   (.reg [⟨(some 35), none, .mv (.t 5)⟩,
                      ⟨(some 36), none, .bin .eql (.t 35) (.c (.i .i64 180))⟩,
                      ⟨(some 37), none, .mv (.t 36)⟩,
                      ⟨(some 38), (some (37, true)), .mv (.t 4)⟩,
                      ⟨(some 39), (some (37, true)), .len .sl (.t 38)⟩,
                      ⟨(some 40), (some (37, true)), .bin .eql (.t 39) (.c (.i .i64 0))⟩,
                      ⟨(some 41), none, .pick (.t 37) (.t 40) (.c (.b false))⟩,
                      ⟨(some 2), none, .mv (.t 41)⟩]
                     [2])
                   .ret)
                  .skip))
                (.reg [⟨(some 42), none, .mv (.t 6)⟩,
                   ⟨(some 43), none, .mv (.t 0)⟩,
                   ⟨(some 44), none, .mv (.t 7)⟩,
                   ⟨(some 45), none, .ia 4 (.t 43) (.t 44)⟩,
                   ⟨(some 46), none, .ld (some 4) (.t 45)⟩,
                   ⟨(some 47), none, .call 5 [(.t 46)]⟩,
                   ⟨(some 48), none, .app 1 1 (.t 42) (.t 47)⟩,
                   ⟨(some 6), none, .mv (.t 48)⟩]
                  [0, 3, 4, 5, 6, 25, 26]))))
             (.reg [⟨(some 49), none, .bin .add (.t 26) (.c (.i .i64 1))⟩,
                ⟨(some 26), none, .mv (.t 49)⟩]
               [0, 3, 4, 5, 6, 25, 26])))))))
       (.seq
        (.reg [⟨(some 50), none, .mv (.t 5)⟩,
           ⟨(some 51), none, .bin .eql (.t 50) (.c (.i .i64 0))⟩,
           ⟨(some 52), none, .mv (.t 51)⟩,
           ⟨(some 53), (some (52, true)), .mv (.t 4)⟩,
           ⟨(some 54), (some (52, true)), .toStr (.t 53)⟩,
           ⟨(some 55), (some (52, true)), .mv (.t 6)⟩,
           ⟨(some 56), (some (52, true)), .toStr (.t 55)⟩,
           ⟨(some 57), (some (52, true)), .bin .eql (.t 54) (.t 56)⟩,
           ⟨(some 58), none, .pick (.t 52) (.t 57) (.c (.b false))⟩,
           ⟨(some 59), none, .mv (.t 58)⟩,
           ⟨(some 60), (some (59, true)), .mv (.t 3)⟩,
           ⟨(some 61), (some (59, true)), .mv (.t 0)⟩,
           ⟨(some 62), (some (59, true)), .call 6 [(.t 60), (.t 61)]⟩,
           ⟨(some 63), none, .pick (.t 59) (.t 62) (.c (.b false))⟩,
           ⟨(some 2), none, .mv (.t 63)⟩]
          [2])
        .ret)))))))⟩
/-- stillage/stillagelaw18.NoteWrites -/
def c_stillagelaw18_NoteWrites : AFun := ⟨2, [.t 4],
 (.seq
  (.reg [⟨(some 2), none, .box 4 (.t 0)⟩,
     ⟨(some 4), none, .mv (.c (.b false))⟩]
    [1, 2])
  (.seq
   (.seq
    (.reg [⟨(some 10), none, .call 0 []⟩,
       ⟨(some 11), none, .not (.t 10)⟩,
       ⟨(some 12), none, .mv (.t 11)⟩,
       ⟨(some 13), (some (12, false)), .mv (.t 1)⟩,
       ⟨(some 14), (some (12, false)), .len .sl (.t 13)⟩,
       ⟨(some 15), (some (12, false)), .bin .gtr (.t 14) (.c (.i .i64 5000))⟩,
       ⟨(some 16), none, .pick (.t 12) (.c (.b true)) (.t 15)⟩]
      [1, 2, 16])
    (.cond (.t 16)
     (.seq
      (.reg [⟨(some 17), none, .call 0 []⟩,
         ⟨(some 4), none, .mv (.t 17)⟩]
        [4])
      .ret)
     .skip))
   (.seq
    (.reg [⟨(some 19), none, .ld (some 4) (.t 2)⟩,
       ⟨(some 20), none, .call 1 [(.t 19)]⟩,
       ⟨(some 18), none, .mv (.t 20)⟩,
       ⟨(some 21), none, .ext 0 (.t 18)⟩,
       ⟨(some 22), none, .ext 1 (.t 18)⟩,
       ⟨(some 5), none, .mv (.t 21)⟩,
       ⟨(some 6), none, .mv (.t 22)⟩]
      [1, 2, 5, 6])
    (.seq
     (.seq
      (.reg [⟨(some 23), none, .ld (some 4) (.t 2)⟩,
         ⟨(some 24), none, .call 4 [(.t 23)]⟩,
         ⟨(some 25), none, .not (.t 24)⟩]
        [1, 2, 5, 6, 25])
      (.cond (.t 25)
       (.seq
        (.reg [⟨(some 26), none, .mv (.t 6)⟩,
           ⟨(some 27), none, .bin .eql (.t 26) (.c (.i .i64 180))⟩,
           ⟨(some 28), none, .mv (.t 27)⟩,
           ⟨(some 29), (some (28, true)), .ld (some 4) (.t 2)⟩,
           ⟨(some 30), (some (28, true)), .call 7 [(.t 29)]⟩,
           ⟨(some 31), (some (28, true)), .bin .eql (.t 30) (.c (.i .i64 180))⟩,
           ⟨(some 32), none, .pick (.t 28) (.t 31) (.c (.b false))⟩,
           ⟨(some 33), none, .mv (.t 32)⟩,
           ⟨(some 34), (some (33, true)), .mv (.t 5)⟩,
           ⟨(some 35), (some (33, true)), .len .sl (.t 34)⟩,
           ⟨(some 36), (some (33, true)), .bin .eql (.t 35) (.c (.i .i64 0))⟩,
           ⟨(some 37), none, .pick (.t 33) (.t 36) (.c (.b false))⟩,
           ⟨(some 4), none, .mv (.t 37)⟩]
          [4])
        .ret)
       .skip))
     (.seq
      (.reg [⟨(some 39), none, .bsl 1 0 [] []⟩,
         ⟨(some 40), none, .mv (.t 5)⟩,
         ⟨(some 41), none, .app 1 1 (.t 39) (.t 40)⟩,
         ⟨(some 42), none, .mv (.t 1)⟩,
         ⟨(some 43), none, .app 1 1 (.t 41) (.t 42)⟩,
         ⟨(some 44), none, .call 8 [(.t 43)]⟩,
         ⟨(some 38), none, .mv (.t 44)⟩,
         ⟨(some 45), none, .ext 0 (.t 38)⟩,
         ⟨(some 46), none, .ext 1 (.t 38)⟩,
         ⟨(some 47), none, .ext 2 (.t 38)⟩,
         ⟨(some 7), none, .alloc [(.i .i64 0), (.i .i64 0), (.i .i64 0), (.i .i64 0)]⟩,
         ⟨none, none, .st 4 (.t 7) (.t 45)⟩,
         ⟨(some 8), none, .mv (.t 46)⟩,
         ⟨(some 9), none, .mv (.t 47)⟩]
        [2, 5, 6, 7, 8, 9])
      (.seq
       (.regd [⟨(some 48), none, .mv (.t 6)⟩,
          ⟨(some 49), none, .bin .eql (.t 48) (.c (.i .i64 0))⟩,
          ⟨(some 50), none, .mv (.t 49)⟩,
          ⟨(some 51), (some (50, true)), .ld (some 4) (.t 2)⟩,
          ⟨(some 52), (some (50, true)), .call 7 [(.t 51)]⟩,
          ⟨(some 53), (some (50, true)), .bin .eql (.t 52) (.c (.i .i64 0))⟩,
          ⟨(some 54), none, .pick (.t 50) (.t 53) (.c (.b false))⟩,
          ⟨(some 55), none, .mv (.t 54)⟩,
          ⟨(some 56), (some (55, true)), .mv (.t 5)⟩,
          ⟨(some 57), (some (55, true)), .toStr (.t 56)⟩,
          ⟨(some 58), (some (55, true)), .ld (some 4) (.t 2)⟩,
          ⟨(some 59), (some (55, true)), .call 5 [(.t 58)]⟩,
          ⟨(some 60), (some (55, true)), .toStr (.t 59)⟩,
          ⟨(some 61), (some (55, true)), .bin .eql (.t 57) (.t 60)⟩,
          ⟨(some 62), none, .pick (.t 55) (.t 61) (.c (.b false))⟩,
          ⟨(some 63), none, .mv (.t 62)⟩,
          ⟨(some 64), (some (63, true)), .mv (.t 9)⟩,
          ⟨(some 65), (some (63, true)), .bin .eql (.t 64) (.c (.i .i64 0))⟩,
          ⟨(some 66), none, .pick (.t 63) (.t 65) (.c (.b false))⟩,
          ⟨(some 67), none, .mv (.t 66)⟩,
          ⟨(some 68), (some (67, true)), .ld (some 4) (.t 7)⟩,
          ⟨(some 69), (some (67, true)), .ld (some 4) (.t 2)⟩,
          ⟨(some 70), (some (67, true)), .eq (.ag [.it, .it, .it, .it]) false (.t 68) (.t 69)⟩,
          ⟨(some 71), none, .pick (.t 67) (.t 70) (.c (.b false))⟩,
          ⟨(some 72), none, .mv (.t 71)⟩,
          ⟨(some 73), (some (72, true)), .mv (.t 8)⟩,
          ⟨(some 74), (some (72, true)), .mv (.t 5)⟩,
          ⟨(some 75), (some (72, true)), .len .sl (.t 74)⟩,
          ⟨(some 76), (some (72, true)), .bin .eql (.t 73) (.t 75)⟩,
          ⟨(some 77), none, .pick (.t 72) (.t 76) (.c (.b false))⟩,
          ⟨(some 4), none, .mv (.t 77)⟩]
         [(9, 31)] [4])
       .ret))))))⟩
/-- stillage/stillagelaw18.NoteTurned -/
def c_stillagelaw18_NoteTurned : AFun := ⟨2, [.t 4],
 (.seq
  (.reg [⟨(some 2), none, .box 4 (.t 0)⟩,
     ⟨(some 3), none, .box 3 (.t 1)⟩,
     ⟨(some 4), none, .mv (.c (.b false))⟩]
    [2, 3])
  (.seq
   (.seq
    (.reg [⟨(some 13), none, .call 0 []⟩,
       ⟨(some 14), none, .not (.t 13)⟩]
      [2, 3, 14])
    (.cond (.t 14)
     (.seq
      (.reg [⟨(some 4), none, .mv (.c (.b false))⟩]
        [4])
      .ret)
     .skip))
   (.seq
    (.reg [⟨(some 16), none, .ld (some 4) (.t 2)⟩,
       ⟨(some 17), none, .call 1 [(.t 16)]⟩,
       ⟨(some 15), none, .mv (.t 17)⟩,
       ⟨(some 18), none, .ext 0 (.t 15)⟩,
       ⟨(some 19), none, .ext 1 (.t 15)⟩,
       ⟨(some 5), none, .mv (.t 18)⟩,
       ⟨(some 6), none, .mv (.t 19)⟩]
      [3, 5, 6])
    (.seq
     (.seq
      (.reg [⟨(some 20), none, .mv (.t 6)⟩,
         ⟨(some 21), none, .bin .neq (.t 20) (.c (.i .i64 0))⟩]
        [3, 5, 21])
      (.cond (.t 21)
       (.seq
        (.reg [⟨(some 4), none, .mv (.c (.b true))⟩]
          [4])
        .ret)
       .skip))
     (.seq
      (.seq
       (.reg [⟨(some 22), none, .mv (.t 5)⟩,
          ⟨(some 23), none, .len .sl (.t 22)⟩,
          ⟨(some 24), none, .bin .lss (.t 23) (.c (.i .i64 5))⟩]
         [3, 5, 24])
       (.cond (.t 24)
        (.seq
         (.reg [⟨(some 4), none, .mv (.c (.b false))⟩]
           [4])
         .ret)
        .skip))
      (.seq
       (.reg [⟨(some 25), none, .bsl 1 0 [] []⟩,
          ⟨(some 26), none, .mv (.t 5)⟩,
          ⟨(some 27), none, .app 1 1 (.t 25) (.t 26)⟩,
          ⟨(some 7), none, .mv (.t 27)⟩]
         [3, 5, 7])
       (.seq
        (.seq
         (.reg [⟨(some 28), none, .mv (.c (.i .i64 0))⟩]
           [3, 5, 7, 28])
         (.block 0
          (.loop
           (.seq
            (.reg [⟨(some 29), none, .bin .lss (.t 28) (.c (.i .i64 3))⟩]
              [3, 5, 7, 28, 29])
            (.seq
             (.cond (.t 29)
              .skip
              (.exit 0))
             (.seq
              (.block 1
               (.seq
                (.reg [⟨(some 30), none, .mv (.t 28)⟩,
                   ⟨(some 8), none, .mv (.t 30)⟩]
                  [3, 5, 7, 8, 28])
                (.seq
                 (.reg [⟨(some 31), none, .mv (.t 8)⟩,
                    ⟨(some 32), none, .iaa 3 1 (.t 3) (.t 31)⟩,
                    ⟨(some 33), none, .ld none (.t 32)⟩,
                    ⟨(some 34), none, .toInt .u64 (.t 33)⟩,
                    ⟨(some 35), none, .mv (.t 5)⟩,
                    ⟨(some 36), none, .len .sl (.t 35)⟩,
                    ⟨(some 37), none, .bin .mul (.c (.i .i64 8)) (.t 36)⟩,
                    ⟨(some 38), none, .bin .sub (.t 37) (.c (.i .i64 8))⟩,
                    ⟨(some 39), none, .toInt .u64 (.t 38)⟩,
                    ⟨(some 40), none, .bin .rem (.t 34) (.t 39)⟩,
                    ⟨(some 41), none, .toInt .i64 (.t 40)⟩,
                    ⟨(some 42), none, .bin .add (.c (.i .i64 8)) (.t 41)⟩,
                    ⟨(some 9), none, .mv (.t 42)⟩]
                   [3, 5, 7, 9, 28])
                 (.seq
                  (.regd [⟨(some 43), none, .mv (.t 7)⟩,
                     ⟨(some 44), none, .mv (.t 9)⟩,
                     ⟨(some 45), none, .bin .quo (.t 44) (.c (.i .i64 8))⟩,
                     ⟨(some 46), none, .ia 1 (.t 43) (.t 45)⟩,
                     ⟨(some 47), none, .ld none (.t 46)⟩,
                     ⟨(some 48), none, .mv (.t 9)⟩,
                     ⟨(some 49), none, .bin .rem (.t 48) (.c (.i .i64 8))⟩,
                     ⟨(some 50), none, .bin .shr (.c (.i .u8 128)) (.t 49)⟩,
                     ⟨(some 51), none, .bin .xor (.t 47) (.t 50)⟩,
                     ⟨(some 52), none, .ia 1 (.t 43) (.t 45)⟩,
                     ⟨none, none, .st 1 (.t 52) (.t 51)⟩]
                    [] [3, 5, 7, 28])
                  (.seq
                   (.reg [⟨(some 54), none, .mv (.t 7)⟩,
                      ⟨(some 55), none, .call 8 [(.t 54)]⟩,
                      ⟨(some 53), none, .mv (.t 55)⟩,
                      ⟨(some 56), none, .ext 0 (.t 53)⟩,
                      ⟨(some 57), none, .ext 1 (.t 53)⟩,
                      ⟨(some 58), none, .ext 2 (.t 53)⟩,
                      ⟨(some 10), none, .alloc [(.i .i64 0), (.i .i64 0), (.i .i64 0), (.i .i64 0)]⟩,
                      ⟨none, none, .st 4 (.t 10) (.t 56)⟩,
                      ⟨(some 11), none, .mv (.t 57)⟩,
                      ⟨(some 12), none, .mv (.t 58)⟩]
                     [3, 5, 7, 12, 28])
                   (.seq
                    (.reg [⟨(some 59), none, .mv (.t 12)⟩,
                       ⟨(some 60), none, .bin .eql (.t 59) (.c (.i .i64 0))⟩,
                       ⟨(some 61), none, .mv (.t 7)⟩,
                       ⟨(some 62), none, .toStr (.t 61)⟩,
                       ⟨(some 63), none, .mv (.t 5)⟩,
                       ⟨(some 64), none, .toStr (.t 63)⟩,
                       ⟨(some 65), none, .bin .eql (.t 62) (.t 64)⟩,
                       ⟨(some 66), none, .eq .bo true (.t 60) (.t 65)⟩]
                      [3, 5, 7, 28, 66])
                    (.cond (.t 66)
                     (.seq
                      (.reg [⟨(some 4), none, .mv (.c (.b false))⟩]
                        [4])
                      .ret)
                     .skip)))))))
              (.reg [⟨(some 67), none, .bin .add (.t 28) (.c (.i .i64 1))⟩,
                 ⟨(some 28), none, .mv (.t 67)⟩]
                [3, 5, 7, 28])))))))
        (.seq
         (.reg [⟨(some 4), none, .mv (.c (.b true))⟩]
           [4])
         .ret))))))))⟩
/-- stillage/stillagelaw18.NoteReads -/
def c_stillagelaw18_NoteReads : AFun := ⟨1, [.t 2],
 (.seq
  (.reg [⟨(some 2), none, .mv (.c (.b false))⟩]
    [0])
  (.seq
   (.seq
    (.reg [⟨(some 13), none, .call 0 []⟩,
       ⟨(some 14), none, .not (.t 13)⟩,
       ⟨(some 15), none, .mv (.t 14)⟩,
       ⟨(some 16), (some (15, false)), .mv (.t 0)⟩,
       ⟨(some 17), (some (15, false)), .len .sl (.t 16)⟩,
       ⟨(some 18), (some (15, false)), .bin .gtr (.t 17) (.c (.i .i64 5000))⟩,
       ⟨(some 19), none, .pick (.t 15) (.c (.b true)) (.t 18)⟩]
      [0, 19])
    (.cond (.t 19)
     (.seq
      (.reg [⟨(some 20), none, .call 0 []⟩,
         ⟨(some 2), none, .mv (.t 20)⟩]
        [2])
      .ret)
     .skip))
   (.seq
    (.reg [⟨(some 21), none, .bsl 1 0 [] []⟩,
       ⟨(some 22), none, .mv (.t 0)⟩,
       ⟨(some 23), none, .app 1 1 (.t 21) (.t 22)⟩,
       ⟨(some 3), none, .mv (.t 23)⟩]
      [0, 3])
    (.seq
     (.reg [⟨(some 25), none, .mv (.t 3)⟩,
        ⟨(some 26), none, .call 9 [(.t 25)]⟩,
        ⟨(some 24), none, .mv (.t 26)⟩,
        ⟨(some 27), none, .ext 0 (.t 24)⟩,
        ⟨(some 28), none, .ext 1 (.t 24)⟩,
        ⟨(some 4), none, .mv (.t 27)⟩,
        ⟨(some 5), none, .mv (.t 28)⟩]
       [0, 3, 4, 5])
     (.seq
      (.reg [⟨(some 30), none, .mv (.t 0)⟩,
         ⟨(some 31), none, .call 10 [(.t 30)]⟩,
         ⟨(some 29), none, .mv (.t 31)⟩,
         ⟨(some 32), none, .ext 0 (.t 29)⟩,
         ⟨(some 33), none, .ext 1 (.t 29)⟩,
         ⟨(some 6), none, .mv (.t 32)⟩,
         ⟨(some 7), none, .mv (.t 33)⟩]
        [0, 3, 4, 5, 6, 7])
      (.seq
       (.reg [⟨(some 35), none, .mv (.t 3)⟩,
          ⟨(some 36), none, .call 8 [(.t 35)]⟩,
          ⟨(some 34), none, .mv (.t 36)⟩,
          ⟨(some 37), none, .ext 0 (.t 34)⟩,
          ⟨(some 38), none, .ext 1 (.t 34)⟩,
          ⟨(some 39), none, .ext 2 (.t 34)⟩,
          ⟨(some 8), none, .alloc [(.i .i64 0), (.i .i64 0), (.i .i64 0), (.i .i64 0)]⟩,
          ⟨none, none, .st 4 (.t 8) (.t 37)⟩,
          ⟨(some 9), none, .mv (.t 38)⟩,
          ⟨(some 10), none, .mv (.t 39)⟩]
         [0, 3, 4, 5, 6, 7, 8, 9, 10])
       (.seq
        (.reg [⟨(some 41), none, .mv (.t 0)⟩,
           ⟨(some 42), none, .call 11 [(.t 41)]⟩,
           ⟨(some 40), none, .mv (.t 42)⟩,
           ⟨(some 43), none, .ext 0 (.t 40)⟩,
           ⟨(some 44), none, .ext 1 (.t 40)⟩,
           ⟨(some 11), none, .alloc [(.i .i64 0), (.i .i64 0), (.i .i64 0), (.i .i64 0)]⟩,
           ⟨none, none, .st 4 (.t 11) (.t 43)⟩,
           ⟨(some 12), none, .mv (.t 44)⟩]
          [0, 3, 4, 5, 6, 7, 8, 9, 10, 11, 12])
        (.seq
         (.reg [⟨(some 45), none, .mv (.t 4)⟩,
            ⟨(some 46), none, .mv (.t 6)⟩,
            ⟨(some 47), none, .call 6 [(.t 45), (.t 46)]⟩,
            ⟨(some 48), none, .mv (.t 47)⟩,
            ⟨(some 49), (some (48, true)), .mv (.t 5)⟩,
            ⟨(some 50), (some (48, true)), .mv (.t 7)⟩,
            ⟨(some 51), (some (48, true)), .bin .eql (.t 49) (.t 50)⟩,
            ⟨(some 52), none, .pick (.t 48) (.t 51) (.c (.b false))⟩,
            ⟨(some 53), none, .mv (.t 52)⟩,
            ⟨(some 54), (some (53, true)), .ld (some 4) (.t 8)⟩,
            ⟨(some 55), (some (53, true)), .ld (some 4) (.t 11)⟩,
            ⟨(some 56), (some (53, true)), .eq (.ag [.it, .it, .it, .it]) false (.t 54) (.t 55)⟩,
            ⟨(some 57), none, .pick (.t 53) (.t 56) (.c (.b false))⟩,
            ⟨(some 58), none, .mv (.t 57)⟩,
            ⟨(some 59), (some (58, true)), .mv (.t 9)⟩,
            ⟨(some 60), (some (58, true)), .mv (.t 12)⟩,
            ⟨(some 61), (some (58, true)), .bin .eql (.t 59) (.t 60)⟩,
            ⟨(some 62), none, .pick (.t 58) (.t 61) (.c (.b false))⟩,
            ⟨(some 63), none, .mv (.t 62)⟩,
            ⟨(some 64), (some (63, true)), .mv (.t 10)⟩,
            ⟨(some 65), (some (63, true)), .bin .eql (.t 64) (.c (.i .i64 0))⟩,
            ⟨(some 66), (some (63, true)), .mv (.t 12)⟩,
            ⟨(some 67), (some (63, true)), .bin .gtr (.t 66) (.c (.i .i64 0))⟩,
            ⟨(some 68), (some (63, true)), .eq .bo false (.t 65) (.t 67)⟩,
            ⟨(some 69), none, .pick (.t 63) (.t 68) (.c (.b false))⟩,
            ⟨(some 70), none, .mv (.t 69)⟩,
            ⟨(some 71), (some (70, true)), .mv (.t 12)⟩,
            ⟨(some 72), (some (70, true)), .bin .gtr (.t 71) (.c (.i .i64 0))⟩,
            ⟨(some 73), (some (70, true)), .mv (.t 72)⟩,
            ⟨(some 74), (some (73, false)), .mv (.t 10)⟩,
            ⟨(some 75), (some (73, false)), .bin .eql (.t 74) (.c (.i .i64 180))⟩,
            ⟨(some 76), (some (70, true)), .pick (.t 73) (.c (.b true)) (.t 75)⟩,
            ⟨(some 77), none, .pick (.t 70) (.t 76) (.c (.b false))⟩,
            ⟨(some 78), none, .mv (.t 77)⟩,
            ⟨(some 79), (some (78, true)), .mv (.t 3)⟩,
            ⟨(some 80), (some (78, true)), .toStr (.t 79)⟩,
            ⟨(some 81), (some (78, true)), .mv (.t 0)⟩,
            ⟨(some 82), (some (78, true)), .toStr (.t 81)⟩,
            ⟨(some 83), (some (78, true)), .bin .eql (.t 80) (.t 82)⟩,
            ⟨(some 84), none, .pick (.t 78) (.t 83) (.c (.b false))⟩,
            ⟨(some 2), none, .mv (.t 84)⟩]
           [2])
         .ret))))))))⟩
/-- stillage/stillagelaw18.NoteCut -/
def c_stillagelaw18_NoteCut : AFun := ⟨2, [.t 4],
 (.seq
  (.reg [⟨(some 4), none, .mv (.c (.b false))⟩]
    [0, 1])
  (.seq
   (.seq
    (.reg [⟨(some 13), none, .call 0 []⟩,
       ⟨(some 14), none, .not (.t 13)⟩,
       ⟨(some 15), none, .mv (.t 14)⟩,
       ⟨(some 16), (some (15, false)), .mv (.t 0)⟩,
       ⟨(some 17), (some (15, false)), .len .sl (.t 16)⟩,
       ⟨(some 18), (some (15, false)), .bin .gtr (.t 17) (.c (.i .i64 100))⟩,
       ⟨(some 19), none, .pick (.t 15) (.c (.b true)) (.t 18)⟩]
      [0, 1, 19])
    (.cond (.t 19)
     (.seq
      (.reg [⟨(some 20), none, .call 0 []⟩,
         ⟨(some 4), none, .mv (.t 20)⟩]
        [4])
      .ret)
     .skip))
   (.seq
    (.reg [⟨(some 22), none, .mv (.t 0)⟩,
       ⟨(some 23), none, .call 3 [(.t 22)]⟩,
       ⟨(some 21), none, .mv (.t 23)⟩,
       ⟨(some 24), none, .ext 0 (.t 21)⟩,
       ⟨(some 25), none, .ext 1 (.t 21)⟩,
       ⟨(some 5), none, .mv (.t 24)⟩,
       ⟨(some 6), none, .mv (.t 25)⟩]
      [0, 1, 5, 6])
    (.seq
     (.seq
      (.reg [⟨(some 26), none, .mv (.t 6)⟩,
         ⟨(some 27), none, .bin .neq (.t 26) (.c (.i .i64 0))⟩]
        [0, 1, 5, 6, 27])
      (.cond (.t 27)
       (.seq
        (.reg [⟨(some 28), none, .mv (.t 6)⟩,
           ⟨(some 29), none, .bin .eql (.t 28) (.c (.i .i64 180))⟩,
           ⟨(some 30), none, .mv (.t 29)⟩,
           ⟨(some 31), (some (30, true)), .mv (.t 5)⟩,
           ⟨(some 32), (some (30, true)), .len .sl (.t 31)⟩,
           ⟨(some 33), (some (30, true)), .bin .eql (.t 32) (.c (.i .i64 0))⟩,
           ⟨(some 34), none, .pick (.t 30) (.t 33) (.c (.b false))⟩,
           ⟨(some 4), none, .mv (.t 34)⟩]
          [4])
        .ret)
       .skip))
     (.seq
      (.reg [⟨(some 35), none, .mv (.t 1)⟩,
         ⟨(some 36), none, .toInt .u64 (.t 35)⟩,
         ⟨(some 37), none, .mv (.t 5)⟩,
         ⟨(some 38), none, .len .sl (.t 37)⟩,
         ⟨(some 39), none, .bin .add (.t 38) (.c (.i .i64 1))⟩,
         ⟨(some 40), none, .toInt .u64 (.t 39)⟩,
         ⟨(some 41), none, .bin .rem (.t 36) (.t 40)⟩,
         ⟨(some 42), none, .toInt .i64 (.t 41)⟩,
         ⟨(some 1), none, .mv (.t 42)⟩]
        [0, 1, 5])
      (.seq
       (.reg [⟨(some 44), none, .mv (.t 5)⟩,
          ⟨(some 45), none, .mv (.t 1)⟩,
          ⟨(some 46), none, .slc 1 (.t 44) none (some (.t 45)) none⟩,
          ⟨(some 47), none, .call 9 [(.t 46)]⟩,
          ⟨(some 43), none, .mv (.t 47)⟩,
          ⟨(some 48), none, .ext 0 (.t 43)⟩,
          ⟨(some 49), none, .ext 1 (.t 43)⟩,
          ⟨(some 7), none, .mv (.t 48)⟩,
          ⟨(some 8), none, .mv (.t 49)⟩]
         [0, 1, 5, 7, 8])
       (.seq
        (.reg [⟨(some 51), none, .mv (.t 5)⟩,
           ⟨(some 52), none, .call 9 [(.t 51)]⟩,
           ⟨(some 50), none, .mv (.t 52)⟩,
           ⟨(some 53), none, .ext 0 (.t 50)⟩,
           ⟨(some 54), none, .ext 1 (.t 50)⟩,
           ⟨(some 9), none, .mv (.t 53)⟩,
           ⟨(some 10), none, .mv (.t 54)⟩]
          [0, 1, 5, 7, 8, 9, 10])
        (.seq
         (.seq
          (.reg [⟨(some 55), none, .mv (.t 10)⟩,
             ⟨(some 56), none, .mv (.t 5)⟩,
             ⟨(some 57), none, .len .sl (.t 56)⟩,
             ⟨(some 58), none, .bin .neq (.t 55) (.t 57)⟩,
             ⟨(some 59), none, .mv (.t 58)⟩,
             ⟨(some 60), (some (59, false)), .mv (.t 9)⟩,
             ⟨(some 61), (some (59, false)), .mv (.t 0)⟩,
             ⟨(some 62), (some (59, false)), .call 6 [(.t 60), (.t 61)]⟩,
             ⟨(some 63), (some (59, false)), .not (.t 62)⟩,
             ⟨(some 64), none, .pick (.t 59) (.c (.b true)) (.t 63)⟩,
             ⟨(some 65), none, .mv (.t 64)⟩,
             ⟨(some 66), (some (65, false)), .mv (.t 8)⟩,
             ⟨(some 67), (some (65, false)), .mv (.t 1)⟩,
             ⟨(some 68), (some (65, false)), .bin .gtr (.t 66) (.t 67)⟩,
             ⟨(some 69), none, .pick (.t 65) (.c (.b true)) (.t 68)⟩,
             ⟨(some 70), none, .mv (.t 69)⟩,
             ⟨(some 71), (some (70, false)), .mv (.t 7)⟩,
             ⟨(some 72), (some (70, false)), .len .sl (.t 71)⟩,
             ⟨(some 73), (some (70, false)), .mv (.t 0)⟩,
             ⟨(some 74), (some (70, false)), .len .sl (.t 73)⟩,
             ⟨(some 75), (some (70, false)), .bin .gtr (.t 72) (.t 74)⟩,
             ⟨(some 76), none, .pick (.t 70) (.c (.b true)) (.t 75)⟩,
             ⟨(some 77), none, .mv (.t 76)⟩,
             ⟨(some 78), (some (77, false)), .mv (.t 7)⟩,
             ⟨(some 79), (some (77, false)), .mv (.t 0)⟩,
             ⟨(some 80), (some (77, false)), .mv (.t 7)⟩,
             ⟨(some 81), (some (77, false)), .len .sl (.t 80)⟩,
             ⟨(some 82), (some (77, false)), .slc 4 (.t 79) none (some (.t 81)) none⟩,
             ⟨(some 83), (some (77, false)), .call 6 [(.t 78), (.t 82)]⟩,
             ⟨(some 84), (some (77, false)), .not (.t 83)⟩,
             ⟨(some 85), none, .pick (.t 77) (.c (.b true)) (.t 84)⟩]
            [0, 1, 5, 7, 8, 85])
          (.cond (.t 85)
           (.seq
            (.reg [⟨(some 4), none, .mv (.c (.b false))⟩]
              [4])
            .ret)
           .skip))
         (.seq
          (.seq
           (.reg [⟨(some 86), none, .mv (.t 7)⟩,
              ⟨(some 87), none, .len .sl (.t 86)⟩,
              ⟨(some 88), none, .mv (.t 0)⟩,
              ⟨(some 89), none, .len .sl (.t 88)⟩,
              ⟨(some 90), none, .bin .eql (.t 87) (.t 89)⟩]
             [0, 1, 5, 7, 8, 90])
           (.cond (.t 90)
            (.seq
             (.reg [⟨(some 91), none, .mv (.t 1)⟩,
                ⟨(some 92), none, .mv (.t 5)⟩,
                ⟨(some 93), none, .len .sl (.t 92)⟩,
                ⟨(some 94), none, .bin .eql (.t 91) (.t 93)⟩,
                ⟨(some 4), none, .mv (.t 94)⟩]
               [4])
             .ret)
            .skip))
          (.seq
           (.reg [⟨(some 96), none, .mv (.t 0)⟩,
              ⟨(some 97), none, .mv (.t 7)⟩,
              ⟨(some 98), none, .len .sl (.t 97)⟩,
              ⟨(some 99), none, .ia 4 (.t 96) (.t 98)⟩,
              ⟨(some 100), none, .ld (some 4) (.t 99)⟩,
              ⟨(some 101), none, .call 1 [(.t 100)]⟩,
              ⟨(some 95), none, .mv (.t 101)⟩,
              ⟨(some 102), none, .ext 0 (.t 95)⟩,
              ⟨(some 103), none, .ext 1 (.t 95)⟩,
              ⟨(some 11), none, .mv (.t 102)⟩,
              ⟨(some 12), none, .mv (.t 103)⟩]
             [1, 8, 11, 12])
           (.seq
            (.reg [⟨(some 104), none, .mv (.t 12)⟩,
               ⟨(some 105), none, .bin .eql (.t 104) (.c (.i .i64 0))⟩,
               ⟨(some 106), none, .mv (.t 105)⟩,
               ⟨(some 107), (some (106, true)), .mv (.t 1)⟩,
               ⟨(some 108), (some (106, true)), .mv (.t 8)⟩,
               ⟨(some 109), (some (106, true)), .bin .sub (.t 107) (.t 108)⟩,
               ⟨(some 110), (some (106, true)), .mv (.t 11)⟩,
               ⟨(some 111), (some (106, true)), .len .sl (.t 110)⟩,
               ⟨(some 112), (some (106, true)), .bin .lss (.t 109) (.t 111)⟩,
               ⟨(some 113), none, .pick (.t 106) (.t 112) (.c (.b false))⟩,
               ⟨(some 4), none, .mv (.t 113)⟩]
              [4])
            .ret)))))))))))⟩
/-- stillage/stillagelaw18.NoteBack -/
def c_stillagelaw18_NoteBack : AFun := ⟨1, [.t 2],
 (.seq
  (.reg [⟨(some 2), none, .mv (.c (.b false))⟩]
    [0])
  (.seq
   (.seq
    (.reg [⟨(some 12), none, .call 0 []⟩,
       ⟨(some 13), none, .not (.t 12)⟩,
       ⟨(some 14), none, .mv (.t 13)⟩,
       ⟨(some 15), (some (14, false)), .mv (.t 0)⟩,
       ⟨(some 16), (some (14, false)), .len .sl (.t 15)⟩,
       ⟨(some 17), (some (14, false)), .bin .gtr (.t 16) (.c (.i .i64 5000))⟩,
       ⟨(some 18), none, .pick (.t 14) (.c (.b true)) (.t 17)⟩]
      [0, 18])
    (.cond (.t 18)
     (.seq
      (.reg [⟨(some 19), none, .call 0 []⟩,
         ⟨(some 2), none, .mv (.t 19)⟩]
        [2])
      .ret)
     .skip))
   (.seq
    (.reg [⟨(some 21), none, .mv (.t 0)⟩,
       ⟨(some 22), none, .call 9 [(.t 21)]⟩,
       ⟨(some 20), none, .mv (.t 22)⟩,
       ⟨(some 23), none, .ext 0 (.t 20)⟩,
       ⟨(some 24), none, .ext 1 (.t 20)⟩,
       ⟨(some 3), none, .mv (.t 23)⟩,
       ⟨(some 4), none, .mv (.t 24)⟩]
      [0, 3, 4])
    (.seq
     (.reg [⟨(some 26), none, .mv (.t 3)⟩,
        ⟨(some 27), none, .call 3 [(.t 26)]⟩,
        ⟨(some 25), none, .mv (.t 27)⟩,
        ⟨(some 28), none, .ext 0 (.t 25)⟩,
        ⟨(some 29), none, .ext 1 (.t 25)⟩,
        ⟨(some 5), none, .mv (.t 28)⟩,
        ⟨(some 6), none, .mv (.t 29)⟩]
       [0, 3, 4, 5, 6])
     (.seq
      (.seq
       (.regd [⟨(some 30), none, .mv (.t 6)⟩,
          ⟨(some 31), none, .bin .neq (.t 30) (.c (.i .i64 0))⟩,
          ⟨(some 32), none, .mv (.t 31)⟩,
          ⟨(some 33), (some (32, false)), .mv (.t 4)⟩,
          ⟨(some 34), (some (32, false)), .bin .lss (.t 33) (.c (.i .i64 0))⟩,
          ⟨(some 35), none, .pick (.t 32) (.c (.b true)) (.t 34)⟩,
          ⟨(some 36), none, .mv (.t 35)⟩,
          ⟨(some 37), (some (36, false)), .mv (.t 4)⟩,
          ⟨(some 38), (some (36, false)), .mv (.t 0)⟩,
          ⟨(some 39), (some (36, false)), .len .sl (.t 38)⟩,
          ⟨(some 40), (some (36, false)), .bin .gtr (.t 37) (.t 39)⟩,
          ⟨(some 41), none, .pick (.t 36) (.c (.b true)) (.t 40)⟩,
          ⟨(some 42), none, .mv (.t 41)⟩,
          ⟨(some 43), (some (42, false)), .mv (.t 5)⟩,
          ⟨(some 44), (some (42, false)), .toStr (.t 43)⟩,
          ⟨(some 45), (some (42, false)), .mv (.t 0)⟩,
          ⟨(some 46), (some (42, false)), .mv (.t 4)⟩,
          ⟨(some 47), (some (42, false)), .slc 1 (.t 45) none (some (.t 46)) none⟩,
          ⟨(some 48), (some (42, false)), .toStr (.t 47)⟩,
          ⟨(some 49), (some (42, false)), .bin .neq (.t 44) (.t 48)⟩,
          ⟨(some 50), none, .pick (.t 42) (.c (.b true)) (.t 49)⟩]
         [] [0, 3, 4, 5, 50])
       (.cond (.t 50)
        (.seq
         (.reg [⟨(some 2), none, .mv (.c (.b false))⟩]
           [2])
         .ret)
        .skip))
      (.seq
       (.reg [⟨(some 52), none, .mv (.t 5)⟩,
          ⟨(some 53), none, .call 9 [(.t 52)]⟩,
          ⟨(some 51), none, .mv (.t 53)⟩,
          ⟨(some 54), none, .ext 0 (.t 51)⟩,
          ⟨(some 55), none, .ext 1 (.t 51)⟩,
          ⟨(some 7), none, .mv (.t 54)⟩,
          ⟨(some 8), none, .mv (.t 55)⟩]
         [0, 3, 4, 7, 8])
       (.seq
        (.seq
         (.reg [⟨(some 56), none, .mv (.t 8)⟩,
            ⟨(some 57), none, .mv (.t 4)⟩,
            ⟨(some 58), none, .bin .neq (.t 56) (.t 57)⟩,
            ⟨(some 59), none, .mv (.t 58)⟩,
            ⟨(some 60), (some (59, false)), .mv (.t 3)⟩,
            ⟨(some 61), (some (59, false)), .mv (.t 7)⟩,
            ⟨(some 62), (some (59, false)), .call 6 [(.t 60), (.t 61)]⟩,
            ⟨(some 63), (some (59, false)), .not (.t 62)⟩,
            ⟨(some 64), none, .pick (.t 59) (.c (.b true)) (.t 63)⟩]
           [0, 3, 4, 64])
         (.cond (.t 64)
          (.seq
           (.reg [⟨(some 2), none, .mv (.c (.b false))⟩]
             [2])
           .ret)
          .skip))
        (.seq
         (.seq
          (.reg [⟨(some 65), none, .mv (.t 3)⟩,
             ⟨(some 66), none, .len .sl (.t 65)⟩,
             ⟨(some 67), none, .bin .eql (.t 66) (.c (.i .i64 0))⟩]
            [0, 3, 4, 67])
          (.cond (.t 67)
           (.seq
            (.reg [⟨(some 68), none, .mv (.t 4)⟩,
               ⟨(some 69), none, .bin .eql (.t 68) (.c (.i .i64 0))⟩,
               ⟨(some 2), none, .mv (.t 69)⟩]
              [2])
            .ret)
           .skip))
         (.seq
          (.reg [⟨(some 71), none, .mv (.t 0)⟩,
             ⟨(some 72), none, .call 8 [(.t 71)]⟩,
             ⟨(some 70), none, .mv (.t 72)⟩,
             ⟨(some 73), none, .ext 0 (.t 70)⟩,
             ⟨(some 74), none, .ext 1 (.t 70)⟩,
             ⟨(some 75), none, .ext 2 (.t 70)⟩,
             ⟨(some 9), none, .alloc [(.i .i64 0), (.i .i64 0), (.i .i64 0), (.i .i64 0)]⟩,
             ⟨none, none, .st 4 (.t 9) (.t 73)⟩,
             ⟨(some 10), none, .mv (.t 74)⟩,
             ⟨(some 11), none, .mv (.t 75)⟩]
            [3, 4, 9, 10, 11])
          (.seq
           (.regd [⟨(some 76), none, .mv (.t 11)⟩,
              ⟨(some 77), none, .bin .eql (.t 76) (.c (.i .i64 0))⟩,
              ⟨(some 78), none, .mv (.t 77)⟩,
              ⟨(some 79), (some (78, true)), .ld (some 4) (.t 9)⟩,
              ⟨(some 80), (some (78, true)), .mv (.t 3)⟩,
              ⟨(some 81), (some (78, true)), .ia 4 (.t 80) (.c (.i .i64 0))⟩,
              ⟨(some 82), (some (78, true)), .ld (some 4) (.t 81)⟩,
              ⟨(some 83), (some (78, true)), .eq (.ag [.it, .it, .it, .it]) false (.t 79) (.t 82)⟩,
              ⟨(some 84), none, .pick (.t 78) (.t 83) (.c (.b false))⟩,
              ⟨(some 85), none, .mv (.t 84)⟩,
              ⟨(some 86), (some (85, true)), .mv (.t 10)⟩,
              ⟨(some 87), (some (85, true)), .bin .gtr (.t 86) (.c (.i .i64 0))⟩,
              ⟨(some 88), none, .pick (.t 85) (.t 87) (.c (.b false))⟩,
              ⟨(some 89), none, .mv (.t 88)⟩,
              ⟨(some 90), (some (89, true)), .mv (.t 10)⟩,
              ⟨(some 91), (some (89, true)), .mv (.t 4)⟩,
              ⟨(some 92), (some (89, true)), .bin .leq (.t 90) (.t 91)⟩,
              ⟨(some 93), none, .pick (.t 89) (.t 92) (.c (.b false))⟩,
              ⟨(some 2), none, .mv (.t 93)⟩]
             [] [2])
           .ret))))))))))⟩
/-- stillage/note.Encode -/
def c_note_Encode : AFun := ⟨1, [.t 2, .t 3],
 (.seq
  (.reg [⟨(some 1), none, .box 4 (.t 0)⟩,
     ⟨(some 2), none, .mv (.c .nils)⟩,
     ⟨(some 3), none, .mv (.c (.i .i64 0))⟩]
    [1])
  (.seq
   (.seq
    (.reg [⟨(some 10), none, .ld (some 4) (.t 1)⟩,
       ⟨(some 11), none, .call 7 [(.t 10)]⟩,
       ⟨(some 4), none, .mv (.t 11)⟩]
      [1, 4])
    (.seq
     (.reg [⟨(some 12), none, .mv (.t 4)⟩,
        ⟨(some 13), none, .bin .neq (.t 12) (.c (.i .i64 0))⟩]
       [1, 4, 13])
     (.cond (.t 13)
      (.seq
       (.reg [⟨(some 14), none, .mv (.t 4)⟩,
          ⟨(some 2), none, .mv (.c .nils)⟩,
          ⟨(some 3), none, .mv (.t 14)⟩]
         [2, 3])
       .ret)
      .skip)))
   (.seq
    (.reg [⟨(some 15), none, .fa 0 (.t 1)⟩,
       ⟨(some 16), none, .ld none (.t 15)⟩,
       ⟨(some 17), none, .toInt .u8 (.t 16)⟩,
       ⟨(some 18), none, .bsl 1 2 [(.i .u8 0), (.i .u8 0)] [(0, 1, (.c (.i .u8 0))), (1, 1, (.t 17))]⟩,
       ⟨(some 5), none, .mv (.t 18)⟩]
      [1, 5])
    (.seq
     (.reg [⟨(some 19), none, .fa 1 (.t 1)⟩,
        ⟨(some 20), none, .ld none (.t 19)⟩,
        ⟨(some 21), none, .fa 2 (.t 1)⟩,
        ⟨(some 22), none, .ld none (.t 21)⟩,
        ⟨(some 23), none, .fa 3 (.t 1)⟩,
        ⟨(some 24), none, .ld none (.t 23)⟩,
        ⟨(some 25), none, .build [(.i .i64 0), (.i .i64 0), (.i .i64 0)] [(0, 1, (.t 20)), (1, 1, (.t 22)), (2, 1, (.t 24))]⟩,
        ⟨(some 6), none, .alloc [(.i .i64 0), (.i .i64 0), (.i .i64 0)]⟩,
        ⟨none, none, .st 3 (.t 6) (.t 25)⟩]
       [1, 5, 6])
     (.seq
      (.seq
       (.reg [⟨(some 26), none, .fa 0 (.t 1)⟩,
          ⟨(some 27), none, .ld none (.t 26)⟩,
          ⟨(some 28), none, .call 12 [(.t 27)]⟩,
          ⟨(some 29), none, .sla 3 1 (.t 6) none (some (.t 28))⟩,
          ⟨(some 30), none, .len .sl (.t 29)⟩,
          ⟨(some 31), none, .mv (.c (.i .i64 0))⟩]
         [5, 29, 30, 31])
       (.block 0
        (.loop
         (.seq
          (.reg [⟨(some 32), none, .bin .lss (.t 31) (.t 30)⟩]
            [5, 29, 30, 31, 32])
          (.seq
           (.cond (.t 32)
            .skip
            (.exit 0))
           (.seq
            (.block 1
             (.seq
              (.reg [⟨(some 33), none, .ia 1 (.t 29) (.t 31)⟩,
                 ⟨(some 34), none, .ld none (.t 33)⟩,
                 ⟨(some 8), none, .mv (.t 34)⟩]
                [5, 8, 29, 30, 31])
              (.reg [⟨(some 35), none, .mv (.t 5)⟩,
                 ⟨(some 36), none, .mv (.t 8)⟩,
                 ⟨(some 37), none, .call 13 [(.t 35), (.t 36)]⟩,
                 ⟨(some 5), none, .mv (.t 37)⟩]
                [5, 29, 30, 31])))
            (.reg [⟨(some 38), none, .bin .add (.t 31) (.c (.i .i64 1))⟩,
               ⟨(some 31), none, .mv (.t 38)⟩]
              [5, 29, 30, 31])))))))
      (.seq
       (.reg [⟨(some 39), none, .mv (.t 5)⟩,
          ⟨(some 40), none, .mv (.t 5)⟩,
          ⟨(some 41), none, .len .sl (.t 40)⟩,
          ⟨(some 42), none, .bin .sub (.t 41) (.c (.i .i64 1))⟩,
          ⟨(some 43), none, .toInt .u8 (.t 42)⟩,
          ⟨(some 44), none, .ia 1 (.t 39) (.c (.i .i64 0))⟩,
          ⟨none, none, .st 1 (.t 44) (.t 43)⟩]
         [5])
       (.seq
        (.reg [⟨(some 45), none, .mv (.t 5)⟩,
           ⟨(some 46), none, .call 14 [(.t 45)]⟩,
           ⟨(some 9), none, .mv (.t 46)⟩]
          [5, 9])
        (.seq
         (.reg [⟨(some 47), none, .mv (.t 5)⟩,
            ⟨(some 48), none, .mv (.t 9)⟩,
            ⟨(some 49), none, .bin .shr (.t 48) (.c (.i .u64 8))⟩,
            ⟨(some 50), none, .toInt .u8 (.t 49)⟩,
            ⟨(some 51), none, .mv (.t 9)⟩,
            ⟨(some 52), none, .toInt .u8 (.t 51)⟩,
            ⟨(some 53), none, .bsl 1 2 [(.i .u8 0), (.i .u8 0)] [(0, 1, (.t 50)), (1, 1, (.t 52))]⟩,
            ⟨(some 54), none, .app 1 1 (.t 47) (.t 53)⟩,
            ⟨(some 2), none, .mv (.t 54)⟩,
            ⟨(some 3), none, .mv (.c (.i .i64 0))⟩]
           [2, 3])
         .ret))))))))⟩
/-- stillage/stillagelaw18.awake -/
def c_stillagelaw18_awake : AFun := ⟨0, [.t 0],
 (.seq
  (.reg [⟨(some 0), none, .mv (.c (.b false))⟩]
    [])
  (.seq
   (.reg [⟨(some 4), none, .build [(.i .i64 0), (.i .i64 0), (.i .i64 0), (.i .i64 0)] [(0, 1, (.c (.i .i64 3))), (1, 1, (.c (.i .i64 300)))]⟩,
      ⟨(some 5), none, .call 1 [(.t 4)]⟩,
      ⟨(some 3), none, .mv (.t 5)⟩,
      ⟨(some 6), none, .ext 0 (.t 3)⟩,
      ⟨(some 7), none, .ext 1 (.t 3)⟩,
      ⟨(some 1), none, .mv (.t 6)⟩,
      ⟨(some 2), none, .mv (.t 7)⟩]
     [1, 2])
   (.seq
    (.reg [⟨(some 8), none, .mv (.t 2)⟩,
       ⟨(some 9), none, .bin .eql (.t 8) (.c (.i .i64 0))⟩,
       ⟨(some 10), none, .mv (.t 9)⟩,
       ⟨(some 11), (some (10, true)), .mv (.t 1)⟩,
       ⟨(some 12), (some (10, true)), .len .sl (.t 11)⟩,
       ⟨(some 13), (some (10, true)), .bin .eql (.t 12) (.c (.i .i64 6))⟩,
       ⟨(some 14), none, .pick (.t 10) (.t 13) (.c (.b false))⟩,
       ⟨(some 15), none, .mv (.t 14)⟩,
       ⟨(some 16), (some (15, true)), .mv (.t 1)⟩,
       ⟨(some 17), (some (15, true)), .slc 1 (.t 16) none (some (.c (.i .i64 4))) none⟩,
       ⟨(some 18), (some (15, true)), .toStr (.t 17)⟩,
       ⟨(some 19), (some (15, true)), .bin .eql (.t 18) (.c (.s [3, 3, 172, 2]))⟩,
       ⟨(some 20), none, .pick (.t 15) (.t 19) (.c (.b false))⟩,
       ⟨(some 21), none, .mv (.t 20)⟩,
       ⟨(some 22), (some (21, true)), .build [(.i .i64 0), (.i .i64 0), (.i .i64 0), (.i .i64 0)] [(0, 1, (.c (.i .i64 8))), (1, 1, (.c (.i .i64 1))), (2, 1, (.c (.i .i64 2)))]⟩,
       ⟨(some 23), (some (21, true)), .call 7 [(.t 22)]⟩,
       ⟨(some 24), (some (21, true)), .bin .eql (.t 23) (.c (.i .i64 180))⟩,
       ⟨(some 25), none, .pick (.t 21) (.t 24) (.c (.b false))⟩,
       ⟨(some 0), none, .mv (.t 25)⟩]
      [0])
    .ret)))⟩
/-- stillage/stillageref18.Uses -/
def c_stillageref18_Uses : AFun := ⟨1, [.t 2],
 (.seq
  (.reg [⟨(some 2), none, .mv (.c (.i .i64 0))⟩]
    [0])
  (.seq
   (.reg [⟨(some 4), none, .build [(.i .i64 0), (.i .i64 0), (.i .i64 0), (.i .i64 0), (.i .i64 0), (.i .i64 0), (.i .i64 0), (.i .i64 0), (.i .i64 0)] [(0, 1, (.c (.i .i64 (-1)))), (1, 1, (.c (.i .i64 2))), (2, 1, (.c (.i .i64 3))), (3, 1, (.c (.i .i64 1))), (4, 1, (.c (.i .i64 3))), (5, 1, (.c (.i .i64 2))), (6, 1, (.c (.i .i64 1))), (7, 1, (.c (.i .i64 1))), (8, 1, (.c (.i .i64 2)))]⟩,
      ⟨(some 3), none, .alloc [(.i .i64 0), (.i .i64 0), (.i .i64 0), (.i .i64 0), (.i .i64 0), (.i .i64 0), (.i .i64 0), (.i .i64 0), (.i .i64 0)]⟩,
      ⟨none, none, .st 9 (.t 3) (.t 4)⟩]
     [0, 3])
   (.seq
    (.seq
     (.reg [⟨(some 5), none, .mv (.t 0)⟩,
        ⟨(some 6), none, .bin .lss (.t 5) (.c (.i .i64 0))⟩,
        ⟨(some 7), none, .mv (.t 6)⟩,
        ⟨(some 8), (some (7, false)), .mv (.t 0)⟩,
        ⟨(some 9), (some (7, false)), .bin .gtr (.t 8) (.c (.i .i64 8))⟩,
        ⟨(some 10), none, .pick (.t 7) (.c (.b true)) (.t 9)⟩]
       [0, 3, 10])
     (.cond (.t 10)
      (.seq
       (.reg [⟨(some 2), none, .mv (.c (.i .i64 (-1)))⟩]
         [2])
       .ret)
      .skip))
    (.seq
     (.reg [⟨(some 11), none, .mv (.t 0)⟩,
        ⟨(some 12), none, .iaa 9 1 (.t 3) (.t 11)⟩,
        ⟨(some 13), none, .ld none (.t 12)⟩,
        ⟨(some 2), none, .mv (.t 13)⟩]
       [2])
     .ret))))⟩
/-- stillage/note.Write -/
def c_note_Write : AFun := ⟨1, [.t 2, .t 3],
 (.seq
  (.reg [⟨(some 2), none, .mv (.c .nils)⟩,
     ⟨(some 3), none, .mv (.c (.i .i64 0))⟩]
    [0])
  (.seq
   (.reg [⟨(some 4), none, .mv (.c .nils)⟩]
     [0, 4])
   (.seq
    (.seq
     (.reg [⟨(some 9), none, .mv (.t 0)⟩,
        ⟨(some 10), none, .len .sl (.t 9)⟩,
        ⟨(some 11), none, .mv (.c (.i .i64 0))⟩]
       [4, 9, 10, 11])
     (.block 0
      (.loop
       (.seq
        (.reg [⟨(some 12), none, .bin .lss (.t 11) (.t 10)⟩]
          [4, 9, 10, 11, 12])
        (.seq
         (.cond (.t 12)
          .skip
          (.exit 0))
         (.seq
          (.block 1
           (.seq
            (.reg [⟨(some 13), none, .ia 4 (.t 9) (.t 11)⟩,
               ⟨(some 14), none, .ld (some 4) (.t 13)⟩,
               ⟨(some 6), none, .alloc [(.i .i64 0), (.i .i64 0), (.i .i64 0), (.i .i64 0)]⟩,
               ⟨none, none, .st 4 (.t 6) (.t 14)⟩]
              [4, 6, 9, 10, 11])
            (.seq
             (.reg [⟨(some 16), none, .ld (some 4) (.t 6)⟩,
                ⟨(some 17), none, .call 1 [(.t 16)]⟩,
                ⟨(some 15), none, .mv (.t 17)⟩,
                ⟨(some 18), none, .ext 0 (.t 15)⟩,
                ⟨(some 19), none, .ext 1 (.t 15)⟩,
                ⟨(some 7), none, .mv (.t 18)⟩,
                ⟨(some 8), none, .mv (.t 19)⟩]
               [4, 7, 8, 9, 10, 11])
             (.seq
              (.seq
               (.reg [⟨(some 20), none, .mv (.t 8)⟩,
                  ⟨(some 21), none, .bin .neq (.t 20) (.c (.i .i64 0))⟩]
                 [4, 7, 8, 9, 10, 11, 21])
               (.cond (.t 21)
                (.seq
                 (.reg [⟨(some 22), none, .mv (.t 8)⟩,
                    ⟨(some 2), none, .mv (.c .nils)⟩,
                    ⟨(some 3), none, .mv (.t 22)⟩]
                   [2, 3])
                 .ret)
                .skip))
              (.reg [⟨(some 23), none, .mv (.t 4)⟩,
                 ⟨(some 24), none, .mv (.t 7)⟩,
                 ⟨(some 25), none, .app 1 1 (.t 23) (.t 24)⟩,
                 ⟨(some 4), none, .mv (.t 25)⟩]
                [4, 9, 10, 11])))))
          (.reg [⟨(some 26), none, .bin .add (.t 11) (.c (.i .i64 1))⟩,
             ⟨(some 11), none, .mv (.t 26)⟩]
            [4, 9, 10, 11])))))))
    (.seq
     (.reg [⟨(some 27), none, .mv (.t 4)⟩,
        ⟨(some 2), none, .mv (.t 27)⟩,
        ⟨(some 3), none, .mv (.c (.i .i64 0))⟩]
       [2, 3])
     .ret))))⟩
/-- stillage/stillageref18.Bytes -/
def c_stillageref18_Bytes : AFun := ⟨1, [.t 2],
 (.seq
  (.reg [⟨(some 1), none, .box 4 (.t 0)⟩,
     ⟨(some 2), none, .mv (.c .nils)⟩]
    [1])
  (.seq
   (.reg [⟨(some 8), none, .fa 0 (.t 1)⟩,
      ⟨(some 9), none, .ld none (.t 8)⟩,
      ⟨(some 10), none, .toInt .u8 (.t 9)⟩,
      ⟨(some 11), none, .bsl 1 1 [(.i .u8 0)] [(0, 1, (.t 10))]⟩,
      ⟨(some 3), none, .mv (.t 11)⟩]
     [1, 3])
   (.seq
    (.reg [⟨(some 12), none, .fa 1 (.t 1)⟩,
       ⟨(some 13), none, .ld none (.t 12)⟩,
       ⟨(some 14), none, .fa 2 (.t 1)⟩,
       ⟨(some 15), none, .ld none (.t 14)⟩,
       ⟨(some 16), none, .fa 3 (.t 1)⟩,
       ⟨(some 17), none, .ld none (.t 16)⟩,
       ⟨(some 18), none, .build [(.i .i64 0), (.i .i64 0), (.i .i64 0)] [(0, 1, (.t 13)), (1, 1, (.t 15)), (2, 1, (.t 17))]⟩,
       ⟨(some 4), none, .alloc [(.i .i64 0), (.i .i64 0), (.i .i64 0)]⟩,
       ⟨none, none, .st 3 (.t 4) (.t 18)⟩]
      [1, 3, 4])
    (.seq
     (.seq
      (.reg [⟨(some 5), none, .mv (.c (.i .i64 0))⟩]
        [1, 3, 4, 5])
      (.block 0
       (.loop
        (.seq
         (.seq
          (.reg [⟨(some 19), none, .mv (.t 5)⟩,
             ⟨(some 20), none, .fa 0 (.t 1)⟩,
             ⟨(some 21), none, .ld none (.t 20)⟩,
             ⟨(some 22), none, .call 2 [(.t 21)]⟩,
             ⟨(some 23), none, .bin .lss (.t 19) (.t 22)⟩]
            [1, 3, 4, 5, 23])
          (.cond (.t 23)
           .skip
           (.exit 0)))
         (.seq
          (.block 1
           (.seq
            (.reg [⟨(some 26), none, .mv (.t 5)⟩,
               ⟨(some 27), none, .iaa 3 1 (.t 4) (.t 26)⟩,
               ⟨(some 28), none, .ld none (.t 27)⟩,
               ⟨(some 6), none, .mv (.t 28)⟩]
              [1, 3, 4, 5, 6])
            (.seq
             (.block 2
              (.loop
               (.seq
                (.seq
                 (.reg [⟨(some 29), none, .mv (.t 6)⟩,
                    ⟨(some 30), none, .bin .gtr (.t 29) (.c (.i .i64 127))⟩]
                   [1, 3, 4, 5, 6, 30])
                 (.cond (.t 30)
                  .skip
                  (.exit 2)))
                (.block 3
                 (.seq
                  (.reg [⟨(some 31), none, .mv (.t 3)⟩,
                     ⟨(some 32), none, .mv (.t 6)⟩,
                     ⟨(some 33), none, .mv (.t 6)⟩,
                     ⟨(some 34), none, .bin .quo (.t 33) (.c (.i .i64 128))⟩,
                     ⟨(some 35), none, .bin .mul (.t 34) (.c (.i .i64 128))⟩,
                     ⟨(some 36), none, .bin .sub (.t 32) (.t 35)⟩,
                     ⟨(some 37), none, .toInt .u8 (.t 36)⟩,
                     ⟨(some 38), none, .bin .add (.t 37) (.c (.i .u8 128))⟩,
                     ⟨(some 39), none, .bsl 1 1 [(.i .u8 0)] [(0, 1, (.t 38))]⟩,
                     ⟨(some 40), none, .app 1 1 (.t 31) (.t 39)⟩,
                     ⟨(some 3), none, .mv (.t 40)⟩]
                    [1, 3, 4, 5, 6])
                  (.reg [⟨(some 41), none, .mv (.t 6)⟩,
                     ⟨(some 42), none, .bin .quo (.t 41) (.c (.i .i64 128))⟩,
                     ⟨(some 6), none, .mv (.t 42)⟩]
                    [1, 3, 4, 5, 6]))))))
             (.reg [⟨(some 43), none, .mv (.t 3)⟩,
                ⟨(some 44), none, .mv (.t 6)⟩,
                ⟨(some 45), none, .toInt .u8 (.t 44)⟩,
                ⟨(some 46), none, .bsl 1 1 [(.i .u8 0)] [(0, 1, (.t 45))]⟩,
                ⟨(some 47), none, .app 1 1 (.t 43) (.t 46)⟩,
                ⟨(some 3), none, .mv (.t 47)⟩]
               [1, 3, 4, 5]))))
          (.reg [⟨(some 24), none, .mv (.t 5)⟩,
             ⟨(some 25), none, .bin .add (.t 24) (.c (.i .i64 1))⟩,
             ⟨(some 5), none, .mv (.t 25)⟩]
            [1, 3, 4, 5]))))))
     (.seq
      (.reg [⟨(some 48), none, .mv (.t 3)⟩,
         ⟨(some 49), none, .len .sl (.t 48)⟩,
         ⟨(some 50), none, .toInt .u8 (.t 49)⟩,
         ⟨(some 51), none, .bsl 1 1 [(.i .u8 0)] [(0, 1, (.t 50))]⟩,
         ⟨(some 52), none, .mv (.t 3)⟩,
         ⟨(some 53), none, .app 1 1 (.t 51) (.t 52)⟩,
         ⟨(some 3), none, .mv (.t 53)⟩]
        [3])
      (.seq
       (.reg [⟨(some 54), none, .mv (.t 3)⟩,
          ⟨(some 55), none, .call 15 [(.t 54)]⟩,
          ⟨(some 7), none, .mv (.t 55)⟩]
         [3, 7])
       (.seq
        (.reg [⟨(some 56), none, .mv (.t 3)⟩,
           ⟨(some 57), none, .mv (.t 7)⟩,
           ⟨(some 58), none, .bin .quo (.t 57) (.c (.i .u16 256))⟩,
           ⟨(some 59), none, .toInt .u8 (.t 58)⟩,
           ⟨(some 60), none, .mv (.t 7)⟩,
           ⟨(some 61), none, .bin .rem (.t 60) (.c (.i .u16 256))⟩,
           ⟨(some 62), none, .toInt .u8 (.t 61)⟩,
           ⟨(some 63), none, .bsl 1 2 [(.i .u8 0), (.i .u8 0)] [(0, 1, (.t 59)), (1, 1, (.t 62))]⟩,
           ⟨(some 64), none, .app 1 1 (.t 56) (.t 63)⟩,
           ⟨(some 2), none, .mv (.t 64)⟩]
          [2])
        .ret)))))))⟩
/-- stillage/stillageref18.Good -/
def c_stillageref18_Good : AFun := ⟨1, [.t 2],
 (.seq
  (.reg [⟨(some 1), none, .box 4 (.t 0)⟩,
     ⟨(some 2), none, .mv (.c (.b false))⟩]
    [1])
  (.seq
   (.reg [⟨(some 6), none, .fa 0 (.t 1)⟩,
      ⟨(some 7), none, .ld none (.t 6)⟩,
      ⟨(some 8), none, .call 2 [(.t 7)]⟩,
      ⟨(some 3), none, .mv (.t 8)⟩]
     [1, 3])
   (.seq
    (.reg [⟨(some 9), none, .fa 1 (.t 1)⟩,
       ⟨(some 10), none, .ld none (.t 9)⟩,
       ⟨(some 11), none, .fa 2 (.t 1)⟩,
       ⟨(some 12), none, .ld none (.t 11)⟩,
       ⟨(some 13), none, .fa 3 (.t 1)⟩,
       ⟨(some 14), none, .ld none (.t 13)⟩,
       ⟨(some 15), none, .build [(.i .i64 0), (.i .i64 0), (.i .i64 0)] [(0, 1, (.t 10)), (1, 1, (.t 12)), (2, 1, (.t 14))]⟩,
       ⟨(some 4), none, .alloc [(.i .i64 0), (.i .i64 0), (.i .i64 0)]⟩,
       ⟨none, none, .st 3 (.t 4) (.t 15)⟩]
      [1, 3, 4])
    (.seq
     (.seq
      (.reg [⟨(some 5), none, .mv (.c (.i .i64 0))⟩]
        [1, 3, 4, 5])
      (.block 0
       (.loop
        (.seq
         (.seq
          (.reg [⟨(some 16), none, .mv (.t 5)⟩,
             ⟨(some 17), none, .bin .lss (.t 16) (.c (.i .i64 3))⟩]
            [1, 3, 4, 5, 17])
          (.cond (.t 17)
           .skip
           (.exit 0)))
         (.seq
          (.block 1
           (.seq
            (.reg [⟨(some 20), none, .mv (.t 5)⟩,
               ⟨(some 21), none, .iaa 3 1 (.t 4) (.t 20)⟩,
               ⟨(some 22), none, .ld none (.t 21)⟩,
               ⟨(some 23), none, .bin .lss (.t 22) (.c (.i .i64 0))⟩,
               ⟨(some 24), none, .mv (.t 23)⟩,
               ⟨(some 25), (some (24, false)), .mv (.t 5)⟩,
               ⟨(some 26), (some (24, false)), .iaa 3 1 (.t 4) (.t 25)⟩,
               ⟨(some 27), (some (24, false)), .ld none (.t 26)⟩,
               ⟨(some 28), (some (24, false)), .bin .gtr (.t 27) (.c (.i .i64 2147483647))⟩,
               ⟨(some 29), none, .pick (.t 24) (.c (.b true)) (.t 28)⟩,
               ⟨(some 30), none, .mv (.t 29)⟩,
               ⟨(some 31), (some (30, false)), .mv (.t 5)⟩,
               ⟨(some 32), (some (30, false)), .mv (.t 3)⟩,
               ⟨(some 33), (some (30, false)), .bin .geq (.t 31) (.t 32)⟩,
               ⟨(some 34), (some (30, false)), .mv (.t 33)⟩,
               ⟨(some 35), (some (34, true)), .mv (.t 5)⟩,
               ⟨(some 36), (some (34, true)), .iaa 3 1 (.t 4) (.t 35)⟩,
               ⟨(some 37), (some (34, true)), .ld none (.t 36)⟩,
               ⟨(some 38), (some (34, true)), .bin .neq (.t 37) (.c (.i .i64 0))⟩,
               ⟨(some 39), (some (30, false)), .pick (.t 34) (.t 38) (.c (.b false))⟩,
               ⟨(some 40), none, .pick (.t 30) (.c (.b true)) (.t 39)⟩]
              [1, 3, 4, 5, 40])
            (.cond (.t 40)
             (.seq
              (.reg [⟨(some 2), none, .mv (.c (.b false))⟩]
                [2])
              .ret)
             .skip)))
          (.reg [⟨(some 18), none, .mv (.t 5)⟩,
             ⟨(some 19), none, .bin .add (.t 18) (.c (.i .i64 1))⟩,
             ⟨(some 5), none, .mv (.t 19)⟩]
            [1, 3, 4, 5]))))))
     (.seq
      (.reg [⟨(some 41), none, .mv (.t 3)⟩,
         ⟨(some 42), none, .bin .gtr (.t 41) (.c (.i .i64 0))⟩,
         ⟨(some 43), none, .mv (.t 42)⟩,
         ⟨(some 44), (some (43, true)), .fa 0 (.t 1)⟩,
         ⟨(some 45), (some (43, true)), .ld none (.t 44)⟩,
         ⟨(some 46), (some (43, true)), .bin .neq (.t 45) (.c (.i .i64 8))⟩,
         ⟨(some 47), (some (43, true)), .mv (.t 46)⟩,
         ⟨(some 48), (some (47, false)), .fa 2 (.t 1)⟩,
         ⟨(some 49), (some (47, false)), .ld none (.t 48)⟩,
         ⟨(some 50), (some (47, false)), .bin .leq (.t 49) (.c (.i .i64 1))⟩,
         ⟨(some 51), (some (43, true)), .pick (.t 47) (.c (.b true)) (.t 50)⟩,
         ⟨(some 52), none, .pick (.t 43) (.t 51) (.c (.b false))⟩,
         ⟨(some 2), none, .mv (.t 52)⟩]
        [2])
      .ret)))))⟩
/-- stillage/stillageref18.Same -/
def c_stillageref18_Same : AFun := ⟨2, [.t 4],
 (.seq
  (.reg [⟨(some 4), none, .mv (.c (.b false))⟩]
    [0, 1])
  (.seq
   (.seq
    (.reg [⟨(some 6), none, .mv (.t 0)⟩,
       ⟨(some 7), none, .len .sl (.t 6)⟩,
       ⟨(some 8), none, .mv (.t 1)⟩,
       ⟨(some 9), none, .len .sl (.t 8)⟩,
       ⟨(some 10), none, .bin .neq (.t 7) (.t 9)⟩]
      [0, 1, 10])
    (.cond (.t 10)
     (.seq
      (.reg [⟨(some 4), none, .mv (.c (.b false))⟩]
        [4])
      .ret)
     .skip))
   (.seq
    (.seq
     (.reg [⟨(some 11), none, .mv (.t 0)⟩,
        ⟨(some 12), none, .len .sl (.t 11)⟩,
        ⟨(some 13), none, .mv (.c (.i .i64 0))⟩]
       [0, 1, 12, 13])
     (.block 0
      (.loop
       (.seq
        (.reg [⟨(some 14), none, .bin .lss (.t 13) (.t 12)⟩]
          [0, 1, 12, 13, 14])
        (.seq
         (.cond (.t 14)
          .skip
          (.exit 0))
         (.seq
          (.block 1
           (.seq
            (.reg [⟨(some 15), none, .mv (.t 13)⟩,
               ⟨(some 5), none, .mv (.t 15)⟩]
              [0, 1, 5, 12, 13])
            (.seq
             (.regd [⟨(some 16), none, .mv (.t 0)⟩,
                ⟨(some 17), none, .mv (.t 5)⟩,
                ⟨(some 18), none, .ia 4 (.t 16) (.t 17)⟩,
                ⟨(some 19), none, .ld (some 4) (.t 18)⟩,
                ⟨(some 20), none, .mv (.t 1)⟩,
                ⟨(some 21), none, .mv (.t 5)⟩,
                ⟨(some 22), none, .ia 4 (.t 20) (.t 21)⟩,
                ⟨(some 23), none, .ld (some 4) (.t 22)⟩,
                ⟨(some 24), none, .eq (.ag [.it, .it, .it, .it]) true (.t 19) (.t 23)⟩]
               [] [0, 1, 12, 13, 24])
             (.cond (.t 24)
              (.seq
               (.reg [⟨(some 4), none, .mv (.c (.b false))⟩]
                 [4])
               .ret)
              .skip))))
          (.reg [⟨(some 25), none, .bin .add (.t 13) (.c (.i .i64 1))⟩,
             ⟨(some 13), none, .mv (.t 25)⟩]
            [0, 1, 12, 13])))))))
    (.seq
     (.reg [⟨(some 4), none, .mv (.c (.b true))⟩]
       [4])
     .ret))))⟩
/-- stillage/note.Check -/
def c_note_Check : AFun := ⟨1, [.t 2],
 (.seq
  (.reg [⟨(some 1), none, .box 4 (.t 0)⟩,
     ⟨(some 2), none, .mv (.c (.i .i64 0))⟩]
    [1])
  (.seq
   (.reg [⟨(some 6), none, .fa 0 (.t 1)⟩,
      ⟨(some 7), none, .ld none (.t 6)⟩,
      ⟨(some 8), none, .call 12 [(.t 7)]⟩,
      ⟨(some 3), none, .mv (.t 8)⟩]
     [1, 3])
   (.seq
    (.seq
     (.reg [⟨(some 9), none, .fa 1 (.t 1)⟩,
        ⟨(some 10), none, .ld none (.t 9)⟩,
        ⟨(some 11), none, .fa 2 (.t 1)⟩,
        ⟨(some 12), none, .ld none (.t 11)⟩,
        ⟨(some 13), none, .fa 3 (.t 1)⟩,
        ⟨(some 14), none, .ld none (.t 13)⟩,
        ⟨(some 15), none, .build [(.i .i64 0), (.i .i64 0), (.i .i64 0)] [(0, 1, (.t 10)), (1, 1, (.t 12)), (2, 1, (.t 14))]⟩,
        ⟨(some 16), none, .mv (.c (.i .i64 0))⟩]
       [1, 3, 15, 16])
     (.block 0
      (.loop
       (.seq
        (.reg [⟨(some 17), none, .bin .lss (.t 16) (.c (.i .i64 3))⟩]
          [1, 3, 15, 16, 17])
        (.seq
         (.cond (.t 17)
          .skip
          (.exit 0))
         (.seq
          (.block 1
           (.seq
            (.reg [⟨(some 18), none, .mv (.t 16)⟩,
               ⟨(some 19), none, .ix 3 1 false (.t 15) (.t 16)⟩,
               ⟨(some 4), none, .mv (.t 18)⟩,
               ⟨(some 5), none, .mv (.t 19)⟩]
              [1, 3, 4, 5, 15, 16])
            (.seq
             (.reg [⟨(some 20), none, .mv (.t 5)⟩,
                ⟨(some 21), none, .bin .lss (.t 20) (.c (.i .i64 0))⟩,
                ⟨(some 22), none, .mv (.t 21)⟩,
                ⟨(some 23), (some (22, false)), .mv (.t 5)⟩,
                ⟨(some 24), (some (22, false)), .bin .gtr (.t 23) (.c (.i .i64 2147483647))⟩,
                ⟨(some 25), none, .pick (.t 22) (.c (.b true)) (.t 24)⟩,
                ⟨(some 26), none, .mv (.t 25)⟩,
                ⟨(some 27), (some (26, false)), .mv (.t 4)⟩,
                ⟨(some 28), (some (26, false)), .mv (.t 3)⟩,
                ⟨(some 29), (some (26, false)), .bin .geq (.t 27) (.t 28)⟩,
                ⟨(some 30), (some (26, false)), .mv (.t 29)⟩,
                ⟨(some 31), (some (30, true)), .mv (.t 5)⟩,
                ⟨(some 32), (some (30, true)), .bin .neq (.t 31) (.c (.i .i64 0))⟩,
                ⟨(some 33), (some (26, false)), .pick (.t 30) (.t 32) (.c (.b false))⟩,
                ⟨(some 34), none, .pick (.t 26) (.c (.b true)) (.t 33)⟩]
               [1, 3, 15, 16, 34])
             (.cond (.t 34)
              (.seq
               (.reg [⟨(some 2), none, .mv (.c (.i .i64 180))⟩]
                 [2])
               .ret)
              .skip))))
          (.reg [⟨(some 35), none, .bin .add (.t 16) (.c (.i .i64 1))⟩,
             ⟨(some 16), none, .mv (.t 35)⟩]
            [1, 3, 15, 16])))))))
    (.seq
     (.seq
      (.reg [⟨(some 36), none, .mv (.t 3)⟩,
         ⟨(some 37), none, .bin .lss (.t 36) (.c (.i .i64 0))⟩,
         ⟨(some 38), none, .mv (.t 37)⟩,
         ⟨(some 39), (some (38, false)), .fa 0 (.t 1)⟩,
         ⟨(some 40), (some (38, false)), .ld none (.t 39)⟩,
         ⟨(some 41), (some (38, false)), .bin .eql (.t 40) (.c (.i .i64 8))⟩,
         ⟨(some 42), (some (38, false)), .mv (.t 41)⟩,
         ⟨(some 43), (some (42, true)), .fa 2 (.t 1)⟩,
         ⟨(some 44), (some (42, true)), .ld none (.t 43)⟩,
         ⟨(some 45), (some (42, true)), .bin .gtr (.t 44) (.c (.i .i64 1))⟩,
         ⟨(some 46), (some (38, false)), .pick (.t 42) (.t 45) (.c (.b false))⟩,
         ⟨(some 47), none, .pick (.t 38) (.c (.b true)) (.t 46)⟩]
        [47])
      (.cond (.t 47)
       (.seq
        (.reg [⟨(some 2), none, .mv (.c (.i .i64 180))⟩]
          [2])
        .ret)
       .skip))
     (.seq
      (.reg [⟨(some 2), none, .mv (.c (.i .i64 0))⟩]
        [2])
      .ret)))))⟩
/-- stillage/note.Decode -/
def c_note_Decode : AFun := ⟨1, [.cell 2 (some 4), .t 3, .t 4],
 (.seq
  (.reg [⟨(some 2), none, .alloc [(.i .i64 0), (.i .i64 0), (.i .i64 0), (.i .i64 0)]⟩,
     ⟨(some 3), none, .mv (.c (.i .i64 0))⟩,
     ⟨(some 4), none, .mv (.c (.i .i64 0))⟩]
    [0, 2])
  (.seq
   (.reg [⟨(some 15), none, .build [(.i .i64 0), (.i .i64 0), (.i .i64 0), (.i .i64 0)] []⟩,
      ⟨(some 5), none, .alloc [(.i .i64 0), (.i .i64 0), (.i .i64 0), (.i .i64 0)]⟩,
      ⟨none, none, .st 4 (.t 5) (.t 15)⟩]
     [0, 2, 5])
   (.seq
    (.seq
     (.reg [⟨(some 16), none, .mv (.t 0)⟩,
        ⟨(some 17), none, .len .sl (.t 16)⟩,
        ⟨(some 18), none, .bin .lss (.t 17) (.c (.i .i64 2))⟩,
        ⟨(some 19), none, .mv (.t 18)⟩,
        ⟨(some 20), (some (19, false)), .mv (.t 0)⟩,
        ⟨(some 21), (some (19, false)), .len .sl (.t 20)⟩,
        ⟨(some 22), (some (19, false)), .mv (.t 0)⟩,
        ⟨(some 23), (some (19, false)), .ia 1 (.t 22) (.c (.i .i64 0))⟩,
        ⟨(some 24), (some (19, false)), .ld none (.t 23)⟩,
        ⟨(some 25), (some (19, false)), .toInt .i64 (.t 24)⟩,
        ⟨(some 26), (some (19, false)), .bin .add (.t 25) (.c (.i .i64 3))⟩,
        ⟨(some 27), (some (19, false)), .bin .lss (.t 21) (.t 26)⟩,
        ⟨(some 28), none, .pick (.t 19) (.c (.b true)) (.t 27)⟩,
        ⟨(some 29), none, .mv (.t 28)⟩,
        ⟨(some 30), (some (29, false)), .mv (.t 0)⟩,
        ⟨(some 31), (some (29, false)), .ia 1 (.t 30) (.c (.i .i64 0))⟩,
        ⟨(some 32), (some (29, false)), .ld none (.t 31)⟩,
        ⟨(some 33), (some (29, false)), .bin .eql (.t 32) (.c (.i .u8 0))⟩,
        ⟨(some 34), none, .pick (.t 29) (.c (.b true)) (.t 33)⟩]
       [0, 2, 5, 34])
     (.cond (.t 34)
      (.seq
       (.reg [⟨(some 35), none, .ld (some 4) (.t 5)⟩,
          ⟨none, none, .st 4 (.t 2) (.t 35)⟩,
          ⟨(some 3), none, .mv (.c (.i .i64 0))⟩,
          ⟨(some 4), none, .mv (.c (.i .i64 180))⟩]
         [2, 3, 4])
       .ret)
      .skip))
    (.seq
     (.reg [⟨(some 36), none, .mv (.t 0)⟩,
        ⟨(some 37), none, .ia 1 (.t 36) (.c (.i .i64 0))⟩,
        ⟨(some 38), none, .ld none (.t 37)⟩,
        ⟨(some 39), none, .toInt .i64 (.t 38)⟩,
        ⟨(some 40), none, .bin .add (.t 39) (.c (.i .i64 1))⟩,
        ⟨(some 6), none, .mv (.t 40)⟩]
       [0, 2, 5, 6])
     (.seq
      (.reg [⟨(some 41), none, .mv (.t 0)⟩,
         ⟨(some 42), none, .ia 1 (.t 41) (.c (.i .i64 1))⟩,
         ⟨(some 43), none, .ld none (.t 42)⟩,
         ⟨(some 44), none, .toInt .i64 (.t 43)⟩,
         ⟨(some 45), none, .build [(.i .i64 0), (.i .i64 0), (.i .i64 0), (.i .i64 0)] [(0, 1, (.t 44))]⟩,
         ⟨(some 7), none, .alloc [(.i .i64 0), (.i .i64 0), (.i .i64 0), (.i .i64 0)]⟩,
         ⟨none, none, .st 4 (.t 7) (.t 45)⟩]
        [0, 2, 5, 6, 7])
      (.seq
       (.reg [⟨(some 46), none, .fa 1 (.t 7)⟩,
          ⟨(some 47), none, .fa 2 (.t 7)⟩,
          ⟨(some 48), none, .fa 3 (.t 7)⟩,
          ⟨(some 49), none, .build [.nilp, .nilp, .nilp] [(0, 1, (.t 46)), (1, 1, (.t 47)), (2, 1, (.t 48))]⟩,
          ⟨(some 8), none, .alloc [.nilp, .nilp, .nilp]⟩,
          ⟨none, none, .st 3 (.t 8) (.t 49)⟩]
         [0, 2, 5, 6, 7, 8])
       (.seq
        (.reg [⟨(some 9), none, .mv (.c (.i .i64 2))⟩]
          [0, 2, 5, 6, 7, 8, 9])
        (.seq
         (.seq
          (.reg [⟨(some 50), none, .fa 0 (.t 7)⟩,
             ⟨(some 51), none, .ld none (.t 50)⟩,
             ⟨(some 52), none, .call 12 [(.t 51)]⟩,
             ⟨(some 53), none, .mx [(.t 52), (.c (.i .i64 0))]⟩,
             ⟨(some 54), none, .sla 3 1 (.t 8) none (some (.t 53))⟩,
             ⟨(some 55), none, .len .sl (.t 54)⟩,
             ⟨(some 56), none, .mv (.c (.i .i64 0))⟩]
            [0, 2, 5, 6, 7, 9, 54, 55, 56])
          (.block 0
           (.loop
            (.seq
             (.reg [⟨(some 57), none, .bin .lss (.t 56) (.t 55)⟩]
               [0, 2, 5, 6, 7, 9, 54, 55, 56, 57])
             (.seq
              (.cond (.t 57)
               .skip
               (.exit 0))
              (.seq
               (.block 1
                (.seq
                 (.reg [⟨(some 58), none, .ia 1 (.t 54) (.t 56)⟩,
                    ⟨(some 59), none, .ld none (.t 58)⟩,
                    ⟨(some 11), none, .mv (.t 59)⟩]
                   [0, 2, 5, 6, 7, 9, 11, 54, 55, 56])
                 (.seq
                  (.reg [⟨(some 12), none, .mv (.c (.i .i64 0))⟩]
                    [0, 2, 5, 6, 7, 9, 11, 12, 54, 55, 56])
                  (.block 2
                   (.loop
                    (.seq
                     (.seq
                      (.reg [⟨(some 60), none, .mv (.t 9)⟩,
                         ⟨(some 61), none, .mv (.t 6)⟩,
                         ⟨(some 62), none, .bin .lss (.t 60) (.t 61)⟩,
                         ⟨(some 63), none, .mv (.t 62)⟩,
                         ⟨(some 64), (some (63, true)), .mv (.t 12)⟩,
                         ⟨(some 65), (some (63, true)), .bin .lss (.t 64) (.c (.i .i64 63))⟩,
                         ⟨(some 66), none, .pick (.t 63) (.t 65) (.c (.b false))⟩]
                        [0, 2, 5, 6, 7, 9, 11, 12, 54, 55, 56, 66])
                      (.cond (.t 66)
                       .skip
                       (.exit 2)))
                     (.seq
                      (.block 3
                       (.seq
                        (.regd [⟨(some 69), none, .mv (.t 11)⟩,
                           ⟨(some 70), none, .chk (.t 69)⟩,
                           ⟨(some 71), none, .ld none (.t 70)⟩,
                           ⟨(some 72), none, .mv (.t 0)⟩,
                           ⟨(some 73), none, .mv (.t 9)⟩,
                           ⟨(some 74), none, .ia 1 (.t 72) (.t 73)⟩,
                           ⟨(some 75), none, .ld none (.t 74)⟩,
                           ⟨(some 76), none, .bin .and (.t 75) (.c (.i .u8 127))⟩,
                           ⟨(some 77), none, .toInt .i64 (.t 76)⟩,
                           ⟨(some 78), none, .mv (.t 12)⟩,
                           ⟨(some 79), none, .bin .shl (.t 77) (.t 78)⟩,
                           ⟨(some 80), none, .bin .or (.t 71) (.t 79)⟩,
                           ⟨(some 81), none, .chk (.t 69)⟩,
                           ⟨none, none, .st 1 (.t 81) (.t 80)⟩]
                          [] [0, 2, 5, 6, 7, 9, 11, 12, 54, 55, 56])
                        (.seq
                         (.reg [⟨(some 82), none, .mv (.t 9)⟩,
                            ⟨(some 83), none, .bin .add (.t 82) (.c (.i .i64 1))⟩,
                            ⟨(some 9), none, .mv (.t 83)⟩]
                           [0, 2, 5, 6, 7, 9, 11, 12, 54, 55, 56])
                         (.seq
                          (.reg [⟨(some 84), none, .mv (.t 0)⟩,
                             ⟨(some 85), none, .mv (.t 9)⟩,
                             ⟨(some 86), none, .bin .sub (.t 85) (.c (.i .i64 1))⟩,
                             ⟨(some 87), none, .ia 1 (.t 84) (.t 86)⟩,
                             ⟨(some 88), none, .ld none (.t 87)⟩,
                             ⟨(some 89), none, .bin .lss (.t 88) (.c (.i .u8 128))⟩]
                            [0, 2, 5, 6, 7, 9, 11, 12, 54, 55, 56, 89])
                          (.cond (.t 89)
                           (.exit 2)
                           .skip)))))
                      (.reg [⟨(some 67), none, .mv (.t 12)⟩,
                         ⟨(some 68), none, .bin .add (.t 67) (.c (.i .i64 7))⟩,
                         ⟨(some 12), none, .mv (.t 68)⟩]
                        [0, 2, 5, 6, 7, 9, 11, 12, 54, 55, 56]))))))))
               (.reg [⟨(some 90), none, .bin .add (.t 56) (.c (.i .i64 1))⟩,
                  ⟨(some 56), none, .mv (.t 90)⟩]
                 [0, 2, 5, 6, 7, 9, 54, 55, 56])))))))
         (.seq
          (.reg [⟨(some 92), none, .ld (some 4) (.t 7)⟩,
             ⟨(some 93), none, .call 1 [(.t 92)]⟩,
             ⟨(some 91), none, .mv (.t 93)⟩,
             ⟨(some 94), none, .ext 0 (.t 91)⟩,
             ⟨(some 95), none, .ext 1 (.t 91)⟩,
             ⟨(some 13), none, .mv (.t 94)⟩,
             ⟨(some 14), none, .mv (.t 95)⟩]
            [0, 2, 5, 6, 7, 13, 14])
          (.seq
           (.seq
            (.regd [⟨(some 96), none, .mv (.t 14)⟩,
               ⟨(some 97), none, .bin .neq (.t 96) (.c (.i .i64 0))⟩,
               ⟨(some 98), none, .mv (.t 97)⟩,
               ⟨(some 99), (some (98, false)), .mv (.t 13)⟩,
               ⟨(some 100), (some (98, false)), .len .sl (.t 99)⟩,
               ⟨(some 101), (some (98, false)), .mv (.t 6)⟩,
               ⟨(some 102), (some (98, false)), .bin .add (.t 101) (.c (.i .i64 2))⟩,
               ⟨(some 103), (some (98, false)), .bin .neq (.t 100) (.t 102)⟩,
               ⟨(some 104), none, .pick (.t 98) (.c (.b true)) (.t 103)⟩,
               ⟨(some 105), none, .mv (.t 104)⟩,
               ⟨(some 106), (some (105, false)), .mv (.t 13)⟩,
               ⟨(some 107), (some (105, false)), .toStr (.t 106)⟩,
               ⟨(some 108), (some (105, false)), .mv (.t 0)⟩,
               ⟨(some 109), (some (105, false)), .mv (.t 6)⟩,
               ⟨(some 110), (some (105, false)), .bin .add (.t 109) (.c (.i .i64 2))⟩,
               ⟨(some 111), (some (105, false)), .slc 1 (.t 108) none (some (.t 110)) none⟩,
               ⟨(some 112), (some (105, false)), .toStr (.t 111)⟩,
               ⟨(some 113), (some (105, false)), .bin .neq (.t 107) (.t 112)⟩,
               ⟨(some 114), none, .pick (.t 105) (.c (.b true)) (.t 113)⟩]
              [] [2, 5, 6, 7, 114])
            (.cond (.t 114)
             (.seq
              (.reg [⟨(some 115), none, .ld (some 4) (.t 5)⟩,
                 ⟨none, none, .st 4 (.t 2) (.t 115)⟩,
                 ⟨(some 3), none, .mv (.c (.i .i64 0))⟩,
                 ⟨(some 4), none, .mv (.c (.i .i64 180))⟩]
                [2, 3, 4])
              .ret)
             .skip))
           (.seq
            (.reg [⟨(some 116), none, .ld (some 4) (.t 7)⟩,
               ⟨(some 117), none, .mv (.t 6)⟩,
               ⟨(some 118), none, .bin .add (.t 117) (.c (.i .i64 2))⟩,
               ⟨none, none, .st 4 (.t 2) (.t 116)⟩,
               ⟨(some 3), none, .mv (.t 118)⟩,
               ⟨(some 4), none, .mv (.c (.i .i64 0))⟩]
              [2, 3, 4])
            .ret)))))))))))⟩
/-- stillage/note.Read -/
def c_note_Read : AFun := ⟨1, [.t 2, .t 3],
 (.seq
  (.reg [⟨(some 2), none, .mv (.c .nils)⟩,
     ⟨(some 3), none, .mv (.c (.i .i64 0))⟩]
    [0])
  (.seq
   (.reg [⟨(some 4), none, .mv (.c .nils)⟩]
     [0, 4])
   (.seq
    (.reg [⟨(some 5), none, .mv (.c (.i .i64 0))⟩]
      [0, 4, 5])
    (.block 0
     (.loop
      (.block 1
       (.seq
        (.reg [⟨(some 10), none, .mv (.t 0)⟩,
           ⟨(some 11), none, .mv (.t 5)⟩,
           ⟨(some 12), none, .slc 1 (.t 10) (some (.t 11)) none none⟩,
           ⟨(some 13), none, .call 8 [(.t 12)]⟩,
           ⟨(some 9), none, .mv (.t 13)⟩,
           ⟨(some 14), none, .ext 0 (.t 9)⟩,
           ⟨(some 15), none, .ext 1 (.t 9)⟩,
           ⟨(some 16), none, .ext 2 (.t 9)⟩,
           ⟨(some 6), none, .alloc [(.i .i64 0), (.i .i64 0), (.i .i64 0), (.i .i64 0)]⟩,
           ⟨none, none, .st 4 (.t 6) (.t 14)⟩,
           ⟨(some 7), none, .mv (.t 15)⟩,
           ⟨(some 8), none, .mv (.t 16)⟩]
          [0, 4, 5, 6, 7, 8])
        (.seq
         (.seq
          (.reg [⟨(some 17), none, .mv (.t 8)⟩,
             ⟨(some 18), none, .bin .neq (.t 17) (.c (.i .i64 0))⟩]
            [0, 4, 5, 6, 7, 18])
          (.cond (.t 18)
           (.seq
            (.reg [⟨(some 19), none, .mv (.t 4)⟩,
               ⟨(some 20), none, .mv (.t 5)⟩,
               ⟨(some 2), none, .mv (.t 19)⟩,
               ⟨(some 3), none, .mv (.t 20)⟩]
              [2, 3])
            .ret)
           .skip))
         (.seq
          (.reg [⟨(some 21), none, .mv (.t 4)⟩,
             ⟨(some 22), none, .ld (some 4) (.t 6)⟩,
             ⟨(some 23), none, .bsl 4 1 [(.i .i64 0), (.i .i64 0), (.i .i64 0), (.i .i64 0)] [(0, 4, (.t 22))]⟩,
             ⟨(some 24), none, .app 4 32 (.t 21) (.t 23)⟩,
             ⟨(some 4), none, .mv (.t 24)⟩]
            [0, 4, 5, 7])
          (.reg [⟨(some 25), none, .mv (.t 5)⟩,
             ⟨(some 26), none, .mv (.t 7)⟩,
             ⟨(some 27), none, .bin .add (.t 25) (.t 26)⟩,
             ⟨(some 5), none, .mv (.t 27)⟩]
            [0, 4, 5]))))))))))⟩
/-- stillage/stillageref18.Decode -/
def c_stillageref18_Decode : AFun := ⟨1, [.cell 2 (some 4), .t 3],
 (.seq
  (.reg [⟨(some 2), none, .alloc [(.i .i64 0), (.i .i64 0), (.i .i64 0), (.i .i64 0)]⟩,
     ⟨(some 3), none, .mv (.c (.i .i64 0))⟩]
    [0, 2])
  (.seq
   (.reg [⟨(some 4), none, .mv (.t 0)⟩,
      ⟨(some 5), none, .call 16 [(.t 4)]⟩,
      ⟨(some 6), none, .ext 0 (.t 5)⟩,
      ⟨(some 7), none, .ext 1 (.t 5)⟩,
      ⟨none, none, .st 4 (.t 2) (.t 6)⟩,
      ⟨(some 3), none, .mv (.t 7)⟩]
     [2, 3])
   .ret))⟩
/-- stillage/stillageref18.Read -/
def c_stillageref18_Read : AFun := ⟨1, [.t 2, .t 3],
 (.seq
  (.reg [⟨(some 2), none, .mv (.c .nils)⟩,
     ⟨(some 3), none, .mv (.c (.i .i64 0))⟩]
    [0])
  (.seq
   (.reg [⟨(some 4), none, .mv (.c .nils)⟩]
     [0, 4])
   (.seq
    (.reg [⟨(some 5), none, .mv (.c (.i .i64 0))⟩]
      [0, 4, 5])
    (.block 0
     (.loop
      (.block 1
       (.seq
        (.reg [⟨(some 9), none, .mv (.t 0)⟩,
           ⟨(some 10), none, .mv (.t 5)⟩,
           ⟨(some 11), none, .slc 1 (.t 9) (some (.t 10)) none none⟩,
           ⟨(some 12), none, .call 16 [(.t 11)]⟩,
           ⟨(some 8), none, .mv (.t 12)⟩,
           ⟨(some 13), none, .ext 0 (.t 8)⟩,
           ⟨(some 14), none, .ext 1 (.t 8)⟩,
           ⟨(some 6), none, .alloc [(.i .i64 0), (.i .i64 0), (.i .i64 0), (.i .i64 0)]⟩,
           ⟨none, none, .st 4 (.t 6) (.t 13)⟩,
           ⟨(some 7), none, .mv (.t 14)⟩]
          [0, 4, 5, 6, 7])
        (.seq
         (.seq
          (.reg [⟨(some 15), none, .mv (.t 7)⟩,
             ⟨(some 16), none, .bin .eql (.t 15) (.c (.i .i64 0))⟩]
            [0, 4, 5, 6, 7, 16])
          (.cond (.t 16)
           (.seq
            (.reg [⟨(some 17), none, .mv (.t 4)⟩,
               ⟨(some 18), none, .mv (.t 5)⟩,
               ⟨(some 2), none, .mv (.t 17)⟩,
               ⟨(some 3), none, .mv (.t 18)⟩]
              [2, 3])
            .ret)
           .skip))
         (.seq
          (.reg [⟨(some 19), none, .mv (.t 4)⟩,
             ⟨(some 20), none, .ld (some 4) (.t 6)⟩,
             ⟨(some 21), none, .bsl 4 1 [(.i .i64 0), (.i .i64 0), (.i .i64 0), (.i .i64 0)] [(0, 4, (.t 20))]⟩,
             ⟨(some 22), none, .app 4 32 (.t 19) (.t 21)⟩,
             ⟨(some 4), none, .mv (.t 22)⟩]
            [0, 4, 5, 7])
          (.reg [⟨(some 23), none, .mv (.t 5)⟩,
             ⟨(some 24), none, .mv (.t 7)⟩,
             ⟨(some 25), none, .bin .add (.t 23) (.t 24)⟩,
             ⟨(some 5), none, .mv (.t 25)⟩]
            [0, 4, 5]))))))))))⟩
/-- stillage/crc.Sum -/
def c_crc_Sum : AFun := ⟨1, [.t 2],
 (.seq
  (.reg [⟨(some 2), none, .mv (.c (.i .u16 0))⟩]
    [0])
  (.seq
   (.reg [⟨(some 3), none, .mv (.c (.i .u16 65535))⟩]
     [0, 3])
   (.seq
    (.seq
     (.reg [⟨(some 6), none, .mv (.t 0)⟩,
        ⟨(some 7), none, .len .sl (.t 6)⟩,
        ⟨(some 8), none, .mv (.c (.i .i64 0))⟩]
       [3, 6, 7, 8])
     (.block 0
      (.loop
       (.seq
        (.reg [⟨(some 9), none, .bin .lss (.t 8) (.t 7)⟩]
          [3, 6, 7, 8, 9])
        (.seq
         (.cond (.t 9)
          .skip
          (.exit 0))
         (.seq
          (.block 1
           (.seq
            (.reg [⟨(some 10), none, .ia 1 (.t 6) (.t 8)⟩,
               ⟨(some 11), none, .ld none (.t 10)⟩,
               ⟨(some 5), none, .mv (.t 11)⟩]
              [3, 5, 6, 7, 8])
            (.reg [⟨(some 12), none, .mv (.t 3)⟩,
               ⟨(some 13), none, .mv (.t 5)⟩,
               ⟨(some 14), none, .call 17 [(.t 12), (.t 13)]⟩,
               ⟨(some 3), none, .mv (.t 14)⟩]
              [3, 6, 7, 8])))
          (.reg [⟨(some 15), none, .bin .add (.t 8) (.c (.i .i64 1))⟩,
             ⟨(some 8), none, .mv (.t 15)⟩]
            [3, 6, 7, 8])))))))
    (.seq
     (.reg [⟨(some 16), none, .mv (.t 3)⟩,
        ⟨(some 2), none, .mv (.t 16)⟩]
       [2])
     .ret))))⟩
/-- stillage/note.number -/
def c_note_number : AFun := ⟨2, [.t 4],
 (.seq
  (.reg [⟨(some 4), none, .mv (.c .nils)⟩]
    [0, 1])
  (.seq
   (.block 0
    (.loop
     (.seq
      (.seq
       (.reg [⟨(some 5), none, .mv (.t 1)⟩,
          ⟨(some 6), none, .bin .geq (.t 5) (.c (.i .i64 128))⟩]
         [0, 1, 6])
       (.cond (.t 6)
        .skip
        (.exit 0)))
      (.seq
       (.block 1
        (.reg [⟨(some 9), none, .mv (.t 0)⟩,
           ⟨(some 10), none, .mv (.t 1)⟩,
           ⟨(some 11), none, .bin .rem (.t 10) (.c (.i .i64 128))⟩,
           ⟨(some 12), none, .bin .add (.t 11) (.c (.i .i64 128))⟩,
           ⟨(some 13), none, .toInt .u8 (.t 12)⟩,
           ⟨(some 14), none, .bsl 1 1 [(.i .u8 0)] [(0, 1, (.t 13))]⟩,
           ⟨(some 15), none, .app 1 1 (.t 9) (.t 14)⟩,
           ⟨(some 0), none, .mv (.t 15)⟩]
          [0, 1]))
       (.reg [⟨(some 7), none, .mv (.t 1)⟩,
          ⟨(some 8), none, .bin .quo (.t 7) (.c (.i .i64 128))⟩,
          ⟨(some 1), none, .mv (.t 8)⟩]
         [0, 1])))))
   (.seq
    (.reg [⟨(some 16), none, .mv (.t 0)⟩,
       ⟨(some 17), none, .mv (.t 1)⟩,
       ⟨(some 18), none, .toInt .u8 (.t 17)⟩,
       ⟨(some 19), none, .bsl 1 1 [(.i .u8 0)] [(0, 1, (.t 18))]⟩,
       ⟨(some 20), none, .app 1 1 (.t 16) (.t 19)⟩,
       ⟨(some 4), none, .mv (.t 20)⟩]
      [4])
    .ret)))⟩
/-- stillage/note.uses -/
def c_note_uses : AFun := ⟨1, [.t 2],
 (.seq
  (.reg [⟨(some 2), none, .mv (.c (.i .i64 0))⟩]
    [0])
  (.seq
   (.seq
    (.reg [⟨(some 3), none, .mv (.t 0)⟩]
      [3])
    (.block 0
     (.seq
      (.seq
       (.reg [⟨(some 5), none, .bin .eql (.t 3) (.c (.i .i64 2))⟩,
          ⟨(some 4), none, .mv (.t 5)⟩]
         [3, 4])
       (.cond (.t 4)
        .skip
        (.reg [⟨(some 6), none, .bin .eql (.t 3) (.c (.i .i64 4))⟩,
           ⟨(some 4), none, .mv (.t 6)⟩]
          [3, 4])))
      (.cond (.t 4)
       (.seq
        (.reg [⟨(some 2), none, .mv (.c (.i .i64 3))⟩]
          [2])
        .ret)
       (.seq
        (.seq
         (.reg [⟨(some 8), none, .bin .eql (.t 3) (.c (.i .i64 1))⟩,
            ⟨(some 7), none, .mv (.t 8)⟩]
           [3, 7])
         (.cond (.t 7)
          .skip
          (.seq
           (.reg [⟨(some 9), none, .bin .eql (.t 3) (.c (.i .i64 5))⟩,
              ⟨(some 7), none, .mv (.t 9)⟩]
             [3, 7])
           (.cond (.t 7)
            .skip
            (.reg [⟨(some 10), none, .bin .eql (.t 3) (.c (.i .i64 8))⟩,
               ⟨(some 7), none, .mv (.t 10)⟩]
              [3, 7])))))
        (.cond (.t 7)
         (.seq
          (.reg [⟨(some 2), none, .mv (.c (.i .i64 2))⟩]
            [2])
          .ret)
         (.seq
          (.seq
           (.reg [⟨(some 12), none, .bin .eql (.t 3) (.c (.i .i64 3))⟩,
              ⟨(some 11), none, .mv (.t 12)⟩]
             [3, 11])
           (.cond (.t 11)
            .skip
            (.seq
             (.reg [⟨(some 13), none, .bin .eql (.t 3) (.c (.i .i64 6))⟩,
                ⟨(some 11), none, .mv (.t 13)⟩]
               [3, 11])
             (.cond (.t 11)
              .skip
              (.reg [⟨(some 14), none, .bin .eql (.t 3) (.c (.i .i64 7))⟩,
                 ⟨(some 11), none, .mv (.t 14)⟩]
                [11])))))
          (.cond (.t 11)
           (.seq
            (.reg [⟨(some 2), none, .mv (.c (.i .i64 1))⟩]
              [2])
            .ret)
           .skip))))))))
   (.seq
    (.reg [⟨(some 2), none, .mv (.c (.i .i64 (-1)))⟩]
      [2])
    .ret)))⟩
/-- stillage/stillageref01.Sum -/
def c_stillageref01_Sum : AFun := ⟨1, [.t 2],
 (.seq
  (.reg [⟨(some 2), none, .mv (.c (.i .u16 0))⟩]
    [0])
  (.seq
   (.reg [⟨(some 3), none, .mv (.c (.i .u16 65535))⟩]
     [0, 3])
   (.seq
    (.seq
     (.reg [⟨(some 4), none, .mv (.c (.i .i64 0))⟩]
       [0, 3, 4])
     (.block 0
      (.loop
       (.seq
        (.seq
         (.reg [⟨(some 5), none, .mv (.t 4)⟩,
            ⟨(some 6), none, .mv (.t 0)⟩,
            ⟨(some 7), none, .len .sl (.t 6)⟩,
            ⟨(some 8), none, .bin .lss (.t 5) (.t 7)⟩]
           [0, 3, 4, 8])
         (.cond (.t 8)
          .skip
          (.exit 0)))
        (.seq
         (.block 1
          (.reg [⟨(some 11), none, .mv (.t 3)⟩,
             ⟨(some 12), none, .mv (.t 0)⟩,
             ⟨(some 13), none, .mv (.t 4)⟩,
             ⟨(some 14), none, .ia 1 (.t 12) (.t 13)⟩,
             ⟨(some 15), none, .ld none (.t 14)⟩,
             ⟨(some 16), none, .call 18 [(.t 11), (.t 15)]⟩,
             ⟨(some 3), none, .mv (.t 16)⟩]
            [0, 3, 4]))
         (.reg [⟨(some 9), none, .mv (.t 4)⟩,
            ⟨(some 10), none, .bin .add (.t 9) (.c (.i .i64 1))⟩,
            ⟨(some 4), none, .mv (.t 10)⟩]
           [0, 3, 4]))))))
    (.seq
     (.reg [⟨(some 17), none, .mv (.t 3)⟩,
        ⟨(some 2), none, .mv (.t 17)⟩]
       [2])
     .ret))))⟩
/-- stillage/stillageref18.first -/
def c_stillageref18_first : AFun := ⟨1, [.cell 2 (some 4), .t 3],
 (.seq
  (.reg [⟨(some 2), none, .alloc [(.i .i64 0), (.i .i64 0), (.i .i64 0), (.i .i64 0)]⟩,
     ⟨(some 3), none, .mv (.c (.i .i64 0))⟩]
    [0, 2])
  (.seq
   (.seq
    (.reg [⟨(some 10), none, .mv (.t 0)⟩,
       ⟨(some 11), none, .len .sl (.t 10)⟩,
       ⟨(some 12), none, .bin .lss (.t 11) (.c (.i .i64 5))⟩,
       ⟨(some 13), none, .mv (.t 12)⟩,
       ⟨(some 14), (some (13, false)), .mv (.t 0)⟩,
       ⟨(some 15), (some (13, false)), .len .sl (.t 14)⟩,
       ⟨(some 16), (some (13, false)), .mv (.t 0)⟩,
       ⟨(some 17), (some (13, false)), .ia 1 (.t 16) (.c (.i .i64 0))⟩,
       ⟨(some 18), (some (13, false)), .ld none (.t 17)⟩,
       ⟨(some 19), (some (13, false)), .toInt .i64 (.t 18)⟩,
       ⟨(some 20), (some (13, false)), .bin .add (.t 19) (.c (.i .i64 3))⟩,
       ⟨(some 21), (some (13, false)), .bin .lss (.t 15) (.t 20)⟩,
       ⟨(some 22), none, .pick (.t 13) (.c (.b true)) (.t 21)⟩]
      [0, 2, 22])
    (.cond (.t 22)
     (.seq
      (.reg [⟨(some 23), none, .build [(.i .i64 0), (.i .i64 0), (.i .i64 0), (.i .i64 0)] []⟩,
         ⟨none, none, .st 4 (.t 2) (.t 23)⟩,
         ⟨(some 3), none, .mv (.c (.i .i64 0))⟩]
        [2, 3])
      .ret)
     .skip))
   (.seq
    (.reg [⟨(some 24), none, .mv (.t 0)⟩,
       ⟨(some 25), none, .ia 1 (.t 24) (.c (.i .i64 1))⟩,
       ⟨(some 26), none, .ld none (.t 25)⟩,
       ⟨(some 27), none, .toInt .i64 (.t 26)⟩,
       ⟨(some 28), none, .build [(.i .i64 0), (.i .i64 0), (.i .i64 0), (.i .i64 0)] [(0, 1, (.t 27))]⟩,
       ⟨(some 4), none, .alloc [(.i .i64 0), (.i .i64 0), (.i .i64 0), (.i .i64 0)]⟩,
       ⟨none, none, .st 4 (.t 4) (.t 28)⟩]
      [0, 2, 4])
    (.seq
     (.reg [⟨(some 5), none, .alloc [(.i .i64 0), (.i .i64 0), (.i .i64 0)]⟩]
       [0, 2, 4, 5])
     (.seq
      (.reg [⟨(some 6), none, .mv (.c (.i .i64 2))⟩]
        [0, 2, 4, 5, 6])
      (.seq
       (.seq
        (.reg [⟨(some 7), none, .mv (.c (.i .i64 0))⟩]
          [0, 2, 4, 5, 6, 7])
        (.block 0
         (.loop
          (.seq
           (.seq
            (.reg [⟨(some 29), none, .mv (.t 7)⟩,
               ⟨(some 30), none, .fa 0 (.t 4)⟩,
               ⟨(some 31), none, .ld none (.t 30)⟩,
               ⟨(some 32), none, .call 2 [(.t 31)]⟩,
               ⟨(some 33), none, .bin .lss (.t 29) (.t 32)⟩]
              [0, 2, 4, 5, 6, 7, 33])
            (.cond (.t 33)
             .skip
             (.exit 0)))
           (.seq
            (.block 1
             (.seq
              (.reg [⟨(some 8), none, .mv (.c (.i .i64 1))⟩]
                [0, 2, 4, 5, 6, 7, 8])
              (.block 2
               (.loop
                (.seq
                 (.seq
                  (.reg [⟨(some 36), none, .mv (.t 6)⟩,
                     ⟨(some 37), none, .mv (.t 0)⟩,
                     ⟨(some 38), none, .ia 1 (.t 37) (.c (.i .i64 0))⟩,
                     ⟨(some 39), none, .ld none (.t 38)⟩,
                     ⟨(some 40), none, .toInt .i64 (.t 39)⟩,
                     ⟨(some 41), none, .bin .add (.t 40) (.c (.i .i64 1))⟩,
                     ⟨(some 42), none, .bin .lss (.t 36) (.t 41)⟩]
                    [0, 2, 4, 5, 6, 7, 8, 42])
                  (.cond (.t 42)
                   .skip
                   (.exit 2)))
                 (.block 3
                  (.seq
                   (.regd [⟨(some 43), none, .mv (.t 7)⟩,
                      ⟨(some 44), none, .mv (.t 7)⟩,
                      ⟨(some 45), none, .iaa 3 1 (.t 5) (.t 44)⟩,
                      ⟨(some 46), none, .ld none (.t 45)⟩,
                      ⟨(some 47), none, .mv (.t 0)⟩,
                      ⟨(some 48), none, .mv (.t 6)⟩,
                      ⟨(some 49), none, .ia 1 (.t 47) (.t 48)⟩,
                      ⟨(some 50), none, .ld none (.t 49)⟩,
                      ⟨(some 51), none, .bin .rem (.t 50) (.c (.i .u8 128))⟩,
                      ⟨(some 52), none, .toInt .i64 (.t 51)⟩,
                      ⟨(some 53), none, .mv (.t 8)⟩,
                      ⟨(some 54), none, .bin .mul (.t 52) (.t 53)⟩,
                      ⟨(some 55), none, .bin .add (.t 46) (.t 54)⟩,
                      ⟨(some 56), none, .iaa 3 1 (.t 5) (.t 43)⟩,
                      ⟨none, none, .st 1 (.t 56) (.t 55)⟩]
                     [] [0, 2, 4, 5, 6, 7, 8])
                   (.seq
                    (.reg [⟨(some 57), none, .mv (.t 8)⟩,
                       ⟨(some 58), none, .bin .mul (.t 57) (.c (.i .i64 128))⟩,
                       ⟨(some 8), none, .mv (.t 58)⟩]
                      [0, 2, 4, 5, 6, 7, 8])
                    (.seq
                     (.reg [⟨(some 59), none, .mv (.t 6)⟩,
                        ⟨(some 60), none, .bin .add (.t 59) (.c (.i .i64 1))⟩,
                        ⟨(some 6), none, .mv (.t 60)⟩]
                       [0, 2, 4, 5, 6, 7, 8])
                     (.seq
                      (.reg [⟨(some 61), none, .mv (.t 0)⟩,
                         ⟨(some 62), none, .mv (.t 6)⟩,
                         ⟨(some 63), none, .bin .sub (.t 62) (.c (.i .i64 1))⟩,
                         ⟨(some 64), none, .ia 1 (.t 61) (.t 63)⟩,
                         ⟨(some 65), none, .ld none (.t 64)⟩,
                         ⟨(some 66), none, .bin .lss (.t 65) (.c (.i .u8 128))⟩,
                         ⟨(some 67), none, .mv (.t 66)⟩,
                         ⟨(some 68), (some (67, false)), .mv (.t 8)⟩,
                         ⟨(some 69), (some (67, false)), .bin .gtr (.t 68) (.c (.i .i64 1099511627776))⟩,
                         ⟨(some 70), none, .pick (.t 67) (.c (.b true)) (.t 69)⟩]
                        [0, 2, 4, 5, 6, 7, 8, 70])
                      (.cond (.t 70)
                       (.exit 2)
                       .skip)))))))))))
            (.reg [⟨(some 34), none, .mv (.t 7)⟩,
               ⟨(some 35), none, .bin .add (.t 34) (.c (.i .i64 1))⟩,
               ⟨(some 7), none, .mv (.t 35)⟩]
              [0, 2, 4, 5, 6, 7]))))))
       (.seq
        (.reg [⟨(some 71), none, .iaa 3 1 (.t 5) (.c (.i .i64 0))⟩,
           ⟨(some 72), none, .ld none (.t 71)⟩,
           ⟨(some 73), none, .fa 1 (.t 4)⟩,
           ⟨none, none, .st 1 (.t 73) (.t 72)⟩]
          [0, 2, 4, 5])
        (.seq
         (.reg [⟨(some 74), none, .iaa 3 1 (.t 5) (.c (.i .i64 1))⟩,
            ⟨(some 75), none, .ld none (.t 74)⟩,
            ⟨(some 76), none, .fa 2 (.t 4)⟩,
            ⟨none, none, .st 1 (.t 76) (.t 75)⟩]
           [0, 2, 4, 5])
         (.seq
          (.reg [⟨(some 77), none, .iaa 3 1 (.t 5) (.c (.i .i64 2))⟩,
             ⟨(some 78), none, .ld none (.t 77)⟩,
             ⟨(some 79), none, .fa 3 (.t 4)⟩,
             ⟨none, none, .st 1 (.t 79) (.t 78)⟩]
            [0, 2, 4])
          (.seq
           (.seq
            (.reg [⟨(some 80), none, .ld (some 4) (.t 4)⟩,
               ⟨(some 81), none, .call 4 [(.t 80)]⟩,
               ⟨(some 82), none, .not (.t 81)⟩]
              [0, 2, 4, 82])
            (.cond (.t 82)
             (.seq
              (.reg [⟨(some 83), none, .build [(.i .i64 0), (.i .i64 0), (.i .i64 0), (.i .i64 0)] []⟩,
                 ⟨none, none, .st 4 (.t 2) (.t 83)⟩,
                 ⟨(some 3), none, .mv (.c (.i .i64 0))⟩]
                [2, 3])
              .ret)
             .skip))
           (.seq
            (.reg [⟨(some 84), none, .ld (some 4) (.t 4)⟩,
               ⟨(some 85), none, .call 5 [(.t 84)]⟩,
               ⟨(some 9), none, .mv (.t 85)⟩]
              [0, 2, 4, 9])
            (.seq
             (.seq
              (.regd [⟨(some 86), none, .mv (.t 9)⟩,
                 ⟨(some 87), none, .len .sl (.t 86)⟩,
                 ⟨(some 88), none, .mv (.t 0)⟩,
                 ⟨(some 89), none, .ia 1 (.t 88) (.c (.i .i64 0))⟩,
                 ⟨(some 90), none, .ld none (.t 89)⟩,
                 ⟨(some 91), none, .toInt .i64 (.t 90)⟩,
                 ⟨(some 92), none, .bin .add (.t 91) (.c (.i .i64 3))⟩,
                 ⟨(some 93), none, .bin .neq (.t 87) (.t 92)⟩,
                 ⟨(some 94), none, .mv (.t 93)⟩,
                 ⟨(some 95), (some (94, false)), .mv (.t 9)⟩,
                 ⟨(some 96), (some (94, false)), .toStr (.t 95)⟩,
                 ⟨(some 97), (some (94, false)), .mv (.t 0)⟩,
                 ⟨(some 98), (some (94, false)), .mv (.t 9)⟩,
                 ⟨(some 99), (some (94, false)), .len .sl (.t 98)⟩,
                 ⟨(some 100), (some (94, false)), .slc 1 (.t 97) none (some (.t 99)) none⟩,
                 ⟨(some 101), (some (94, false)), .toStr (.t 100)⟩,
                 ⟨(some 102), (some (94, false)), .bin .neq (.t 96) (.t 101)⟩,
                 ⟨(some 103), none, .pick (.t 94) (.c (.b true)) (.t 102)⟩]
                [] [2, 4, 9, 103])
              (.cond (.t 103)
               (.seq
                (.reg [⟨(some 104), none, .build [(.i .i64 0), (.i .i64 0), (.i .i64 0), (.i .i64 0)] []⟩,
                   ⟨none, none, .st 4 (.t 2) (.t 104)⟩,
                   ⟨(some 3), none, .mv (.c (.i .i64 0))⟩]
                  [2, 3])
                .ret)
               .skip))
             (.seq
              (.reg [⟨(some 105), none, .ld (some 4) (.t 4)⟩,
                 ⟨(some 106), none, .mv (.t 9)⟩,
                 ⟨(some 107), none, .len .sl (.t 106)⟩,
                 ⟨none, none, .st 4 (.t 2) (.t 105)⟩,
                 ⟨(some 3), none, .mv (.t 107)⟩]
                [2, 3])
              .ret)))))))))))))⟩
/-- stillage/crc.Step -/
def c_crc_Step : AFun := ⟨2, [.t 4],
 (.seq
  (.reg [⟨(some 4), none, .mv (.c (.i .u16 0))⟩]
    [0, 1])
  (.seq
   (.reg [⟨(some 6), none, .mv (.t 0)⟩,
      ⟨(some 7), none, .bin .shr (.t 6) (.c (.i .u64 8))⟩,
      ⟨(some 8), none, .mv (.t 1)⟩,
      ⟨(some 9), none, .toInt .u16 (.t 8)⟩,
      ⟨(some 10), none, .bin .xor (.t 7) (.t 9)⟩,
      ⟨(some 5), none, .mv (.t 10)⟩]
     [0, 5])
   (.seq
    (.reg [⟨(some 11), none, .mv (.t 5)⟩,
       ⟨(some 12), none, .mv (.t 5)⟩,
       ⟨(some 13), none, .bin .shr (.t 12) (.c (.i .u64 4))⟩,
       ⟨(some 14), none, .bin .xor (.t 11) (.t 13)⟩,
       ⟨(some 5), none, .mv (.t 14)⟩]
      [0, 5])
    (.seq
     (.reg [⟨(some 15), none, .mv (.t 0)⟩,
        ⟨(some 16), none, .bin .shl (.t 15) (.c (.i .u64 8))⟩,
        ⟨(some 17), none, .mv (.t 5)⟩,
        ⟨(some 18), none, .bin .shl (.t 17) (.c (.i .u64 12))⟩,
        ⟨(some 19), none, .bin .xor (.t 16) (.t 18)⟩,
        ⟨(some 20), none, .mv (.t 5)⟩,
        ⟨(some 21), none, .bin .shl (.t 20) (.c (.i .u64 5))⟩,
        ⟨(some 22), none, .bin .xor (.t 19) (.t 21)⟩,
        ⟨(some 23), none, .mv (.t 5)⟩,
        ⟨(some 24), none, .bin .xor (.t 22) (.t 23)⟩,
        ⟨(some 4), none, .mv (.t 24)⟩]
       [4])
     .ret))))⟩
/-- stillage/stillageref01.Step -/
def c_stillageref01_Step : AFun := ⟨2, [.t 4],
 (.seq
  (.reg [⟨(some 4), none, .mv (.c (.i .u16 0))⟩]
    [0, 1])
  (.seq
   (.reg [⟨(some 7), none, .mv (.t 0)⟩,
      ⟨(some 8), none, .mv (.t 1)⟩,
      ⟨(some 9), none, .toInt .u16 (.t 8)⟩,
      ⟨(some 10), none, .bin .shl (.t 9) (.c (.i .u64 8))⟩,
      ⟨(some 11), none, .bin .xor (.t 7) (.t 10)⟩,
      ⟨(some 0), none, .mv (.t 11)⟩]
     [0])
   (.seq
    (.seq
     (.reg [⟨(some 5), none, .mv (.c (.i .i64 0))⟩]
       [0, 5])
     (.block 0
      (.loop
       (.seq
        (.seq
         (.reg [⟨(some 12), none, .mv (.t 5)⟩,
            ⟨(some 13), none, .bin .lss (.t 12) (.c (.i .i64 8))⟩]
           [0, 5, 13])
         (.cond (.t 13)
          .skip
          (.exit 0)))
        (.seq
         (.block 1
          (.seq
           (.reg [⟨(some 16), none, .mv (.t 0)⟩,
              ⟨(some 17), none, .bin .geq (.t 16) (.c (.i .u16 32768))⟩,
              ⟨(some 6), none, .mv (.t 17)⟩]
             [0, 5, 6])
           (.seq
            (.reg [⟨(some 18), none, .mv (.t 0)⟩,
               ⟨(some 19), none, .bin .shl (.t 18) (.c (.i .u64 1))⟩,
               ⟨(some 0), none, .mv (.t 19)⟩]
              [0, 5, 6])
            (.seq
             (.reg [⟨(some 20), none, .mv (.t 6)⟩]
               [0, 5, 20])
             (.cond (.t 20)
              (.reg [⟨(some 21), none, .mv (.t 0)⟩,
                 ⟨(some 22), none, .bin .xor (.t 21) (.c (.i .u16 4129))⟩,
                 ⟨(some 0), none, .mv (.t 22)⟩]
                [0, 5])
              .skip)))))
         (.reg [⟨(some 14), none, .mv (.t 5)⟩,
            ⟨(some 15), none, .bin .add (.t 14) (.c (.i .i64 1))⟩,
            ⟨(some 5), none, .mv (.t 15)⟩]
           [0, 5]))))))
    (.seq
     (.reg [⟨(some 23), none, .mv (.t 0)⟩,
        ⟨(some 4), none, .mv (.t 23)⟩]
       [4])
     .ret))))⟩
def C18Tab : List (Nat × AFun) := [
  (19, c_stillagelaw18_NoteSizes),
  (20, c_stillagelaw18_NoteMany),
  (21, c_stillagelaw18_NoteWrites),
  (22, c_stillagelaw18_NoteTurned),
  (23, c_stillagelaw18_NoteReads),
  (24, c_stillagelaw18_NoteCut),
  (25, c_stillagelaw18_NoteBack),
  (1, c_note_Encode),
  (0, c_stillagelaw18_awake),
  (2, c_stillageref18_Uses),
  (3, c_note_Write),
  (5, c_stillageref18_Bytes),
  (4, c_stillageref18_Good),
  (6, c_stillageref18_Same),
  (7, c_note_Check),
  (8, c_note_Decode),
  (9, c_note_Read),
  (11, c_stillageref18_Decode),
  (10, c_stillageref18_Read),
  (14, c_crc_Sum),
  (13, c_note_number),
  (12, c_note_uses),
  (15, c_stillageref01_Sum),
  (16, c_stillageref18_first),
  (17, c_crc_Step),
  (18, c_stillageref01_Step)]
def i_stillagelaw18_NoteSizes : Nat := 19
def i_stillagelaw18_NoteMany : Nat := 20
def i_stillagelaw18_NoteWrites : Nat := 21
def i_stillagelaw18_NoteTurned : Nat := 22
def i_stillagelaw18_NoteReads : Nat := 23
def i_stillagelaw18_NoteCut : Nat := 24
def i_stillagelaw18_NoteBack : Nat := 25
def i_note_Encode : Nat := 1
def i_stillagelaw18_awake : Nat := 0
def i_stillageref18_Uses : Nat := 2
def i_note_Write : Nat := 3
def i_stillageref18_Bytes : Nat := 5
def i_stillageref18_Good : Nat := 4
def i_stillageref18_Same : Nat := 6
def i_note_Check : Nat := 7
def i_note_Decode : Nat := 8
def i_note_Read : Nat := 9
def i_stillageref18_Decode : Nat := 11
def i_stillageref18_Read : Nat := 10
def i_crc_Sum : Nat := 14
def i_note_number : Nat := 13
def i_note_uses : Nat := 12
def i_stillageref01_Sum : Nat := 15
def i_stillageref18_first : Nat := 16
def i_crc_Step : Nat := 17
def i_stillageref01_Step : Nat := 18
end Go.Proofs.Ytdcknhimmdmgoaa.Ab

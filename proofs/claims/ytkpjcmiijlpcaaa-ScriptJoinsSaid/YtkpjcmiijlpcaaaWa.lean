/- The table of the program's types, and that it is the program's. -/
import Derived.Test.YtkpjcmiijlpcaaaProg
import Derived.Test.YtkpjcmiijlpcaaaAwY
set_option linter.unusedVariables false
set_option linter.unusedSimpArgs false
namespace Go.Proofs.Ytkpjcmiijlpcaaa.W
open Go Go.Proofs Go.Proofs.Ytkpjcmiijlpcaaa.Aw
def tab : Tab := [(0,
    { d := TD.unk, size := 0, bytes := 0, zero := [], t := none,
      eq := false }),
  (1,
    { d := TD.scalar, size := 1, bytes := 8,
      zero := [AV.nilf], t := none, eq := false }),
  (2,
    { d := TD.scalar, size := 1, bytes := 8,
      zero := [AV.int IntKind.i64 (Int.ofNat 0)],
      t := some (Ty.int IntKind.i64), eq := true }),
  (3,
    { d := TD.scalar, size := 1, bytes := 8,
      zero := [AV.int IntKind.i64 (Int.ofNat 0)],
      t := some (Ty.int IntKind.i64), eq := true }),
  (4,
    { d := TD.scalar, size := 1, bytes := 1,
      zero := [AV.bool false],
      t := some Ty.bool, eq := true }),
  (5,
    { d := TD.scalar, size := 1, bytes := 1,
      zero := [AV.int IntKind.u8 (Int.ofNat 0)],
      t := some (Ty.int IntKind.u8), eq := true }),
  (6,
    { d := TD.scalar, size := 1, bytes := 1,
      zero := [AV.int IntKind.u8 (Int.ofNat 0)],
      t := some (Ty.int IntKind.u8), eq := true }),
  (7,
    { d := TD.struct [(0, 2), (1, 3), (2, 4), (3, 6)], size := 4, bytes := 24,
      zero :=
        [AV.int IntKind.i64 (Int.ofNat 0),
          AV.int IntKind.i64 (Int.ofNat 0),
          AV.bool false,
          AV.int IntKind.u8 (Int.ofNat 0)],
      t :=
        some
          ((Ty.int IntKind.i64).pair
            ((Ty.int IntKind.i64).pair
              (Ty.bool.pair (Ty.int IntKind.u8)))),
      eq := true }),
  (8,
    { d := TD.struct [(0, 2), (1, 3), (2, 4), (3, 6)], size := 4, bytes := 24,
      zero :=
        [AV.int IntKind.i64 (Int.ofNat 0),
          AV.int IntKind.i64 (Int.ofNat 0),
          AV.bool false,
          AV.int IntKind.u8 (Int.ofNat 0)],
      t :=
        some
          ((Ty.int IntKind.i64).pair
            ((Ty.int IntKind.i64).pair
              (Ty.bool.pair (Ty.int IntKind.u8)))),
      eq := false }),
  (9,
    { d := TD.scalar, size := 1, bytes := 16,
      zero := [AV.str { data := { toList := [] } }],
      t := some Ty.str, eq := true }),
  (10,
    { d := TD.scalar, size := 1, bytes := 16,
      zero := [AV.str { data := { toList := [] } }],
      t := some Ty.str, eq := true }),
  (11,
    { d := TD.scalar, size := 1, bytes := 16,
      zero := [AV.str { data := { toList := [] } }],
      t := some Ty.str, eq := true }),
  (12,
    { d := TD.scalar, size := 1, bytes := 8,
      zero := [AV.int IntKind.u64 (Int.ofNat 0)],
      t := some (Ty.int IntKind.u64), eq := true }),
  (13,
    { d := TD.struct [(0, 9), (1, 12)], size := 2, bytes := 24,
      zero :=
        [AV.str { data := { toList := [] } },
          AV.int IntKind.u64 (Int.ofNat 0)],
      t :=
        some (Ty.str.pair (Ty.int IntKind.u64)),
      eq := false }),
  (14,
    { d := TD.struct [(0, 9), (1, 12)], size := 2, bytes := 24,
      zero :=
        [AV.str { data := { toList := [] } },
          AV.int IntKind.u64 (Int.ofNat 0)],
      t :=
        some (Ty.str.pair (Ty.int IntKind.u64)),
      eq := false }),
  (15,
    { d := TD.scalar, size := 1, bytes := 8,
      zero := [AV.nilp], t := none, eq := false }),
  (16,
    { d := TD.scalar, size := 1, bytes := 8,
      zero := [AV.nilp], t := none, eq := false }),
  (17,
    { d := TD.scalar, size := 1, bytes := 8,
      zero := [AV.nilp], t := none, eq := false }),
  (18,
    { d := TD.struct [(0, 17)], size := 1, bytes := 8,
      zero := [AV.nilp], t := none, eq := false }),
  (19,
    { d := TD.struct [(0, 17)], size := 1, bytes := 8,
      zero := [AV.nilp], t := none, eq := false }),
  (20,
    { d := TD.scalar, size := 1, bytes := 16,
      zero := [AV.nili], t := none, eq := false }),
  (21,
    { d := TD.scalar, size := 1, bytes := 4,
      zero := [AV.int IntKind.i32 (Int.ofNat 0)],
      t := some (Ty.int IntKind.i32), eq := true }),
  (22,
    { d := TD.scalar, size := 1, bytes := 8,
      zero := [AV.nilf], t := none, eq := false }),
  (23,
    { d := TD.slice 3, size := 1, bytes := 24,
      zero := [AV.nils 3 (Ty.int IntKind.i64)],
      t := some (Ty.list 3 (Ty.int IntKind.i64)),
      eq := false }),
  (24,
    { d := TD.slice 50, size := 1, bytes := 24,
      zero :=
        [AV.nils 50
            ((Ty.int IntKind.i64).pair
              ((Ty.int IntKind.i64).pair
                ((Ty.int IntKind.i64).pair
                  ((Ty.int IntKind.i64).pair
                    ((Ty.int IntKind.i64).pair
                      ((Ty.int IntKind.i64).pair
                        (((Ty.int IntKind.i64).pair
                              ((Ty.int IntKind.i64).pair
                                ((Ty.int IntKind.i64).pair
                                  (Ty.int IntKind.i64)))).pair
                          ((Ty.int IntKind.i64).pair
                            ((Ty.int IntKind.i64).pair
                              ((Ty.int IntKind.i64).pair
                                (Ty.int IntKind.i64)))))))))))],
      t :=
        some
          (Ty.list 50
            ((Ty.int IntKind.i64).pair
              ((Ty.int IntKind.i64).pair
                ((Ty.int IntKind.i64).pair
                  ((Ty.int IntKind.i64).pair
                    ((Ty.int IntKind.i64).pair
                      ((Ty.int IntKind.i64).pair
                        (((Ty.int IntKind.i64).pair
                              ((Ty.int IntKind.i64).pair
                                ((Ty.int IntKind.i64).pair
                                  (Ty.int IntKind.i64)))).pair
                          ((Ty.int IntKind.i64).pair
                            ((Ty.int IntKind.i64).pair
                              ((Ty.int IntKind.i64).pair
                                (Ty.int IntKind.i64)))))))))))),
      eq := false }),
  (25,
    { d := TD.scalar, size := 1, bytes := 8,
      zero := [AV.int IntKind.i64 (Int.ofNat 0)],
      t := some (Ty.int IntKind.i64), eq := true }),
  (26,
    { d := TD.unk, size := 0, bytes := 0, zero := [], t := none,
      eq := false }),
  (27,
    { d := TD.scalar, size := 1, bytes := 8,
      zero := [AV.nilf], t := none, eq := false }),
  (28,
    { d := TD.scalar, size := 1, bytes := 8,
      zero := [AV.nilf], t := none, eq := false }),
  (29,
    { d := TD.slice 35, size := 1, bytes := 24,
      zero :=
        [AV.nils 35
            ((Ty.int IntKind.i64).pair
              ((Ty.int IntKind.i64).pair
                ((Ty.int IntKind.i64).pair
                  ((Ty.int IntKind.i64).pair
                    ((Ty.int IntKind.i64).pair
                      ((Ty.int IntKind.i64).pair
                        (((Ty.int IntKind.i64).pair
                              ((Ty.int IntKind.i64).pair
                                ((Ty.int IntKind.i64).pair
                                  (Ty.int IntKind.i64)))).pair
                          ((Ty.int IntKind.i64).pair
                            ((Ty.int IntKind.i64).pair
                              ((Ty.int IntKind.i64).pair
                                (Ty.int IntKind.i64)))))))))))],
      t :=
        some
          (Ty.list 35
            ((Ty.int IntKind.i64).pair
              ((Ty.int IntKind.i64).pair
                ((Ty.int IntKind.i64).pair
                  ((Ty.int IntKind.i64).pair
                    ((Ty.int IntKind.i64).pair
                      ((Ty.int IntKind.i64).pair
                        (((Ty.int IntKind.i64).pair
                              ((Ty.int IntKind.i64).pair
                                ((Ty.int IntKind.i64).pair
                                  (Ty.int IntKind.i64)))).pair
                          ((Ty.int IntKind.i64).pair
                            ((Ty.int IntKind.i64).pair
                              ((Ty.int IntKind.i64).pair
                                (Ty.int IntKind.i64)))))))))))),
      eq := false }),
  (30,
    { d := TD.map 3 3, size := 1, bytes := 8,
      zero := [AV.undef], t := none, eq := false }),
  (31,
    { d := TD.scalar, size := 1, bytes := 8,
      zero := [AV.nilf], t := none, eq := false }),
  (32,
    { d := TD.scalar, size := 1, bytes := 8,
      zero := [AV.nilf], t := none, eq := false }),
  (33,
    { d := TD.array 4 3, size := 4, bytes := 32,
      zero :=
        [AV.int IntKind.i64 (Int.ofNat 0),
          AV.int IntKind.i64 (Int.ofNat 0),
          AV.int IntKind.i64 (Int.ofNat 0),
          AV.int IntKind.i64 (Int.ofNat 0)],
      t :=
        some
          ((Ty.int IntKind.i64).pair
            ((Ty.int IntKind.i64).pair
              ((Ty.int IntKind.i64).pair
                (Ty.int IntKind.i64)))),
      eq := true }),
  (34,
    { d := TD.struct [(0, 3), (1, 3), (2, 3), (3, 3), (4, 3), (5, 3), (6, 33), (10, 33)],
      size := 14, bytes := 112,
      zero :=
        [AV.int IntKind.i64 (Int.ofNat 0),
          AV.int IntKind.i64 (Int.ofNat 0),
          AV.int IntKind.i64 (Int.ofNat 0),
          AV.int IntKind.i64 (Int.ofNat 0),
          AV.int IntKind.i64 (Int.ofNat 0),
          AV.int IntKind.i64 (Int.ofNat 0),
          AV.int IntKind.i64 (Int.ofNat 0),
          AV.int IntKind.i64 (Int.ofNat 0),
          AV.int IntKind.i64 (Int.ofNat 0),
          AV.int IntKind.i64 (Int.ofNat 0),
          AV.int IntKind.i64 (Int.ofNat 0),
          AV.int IntKind.i64 (Int.ofNat 0),
          AV.int IntKind.i64 (Int.ofNat 0),
          AV.int IntKind.i64 (Int.ofNat 0)],
      t :=
        some
          ((Ty.int IntKind.i64).pair
            ((Ty.int IntKind.i64).pair
              ((Ty.int IntKind.i64).pair
                ((Ty.int IntKind.i64).pair
                  ((Ty.int IntKind.i64).pair
                    ((Ty.int IntKind.i64).pair
                      (((Ty.int IntKind.i64).pair
                            ((Ty.int IntKind.i64).pair
                              ((Ty.int IntKind.i64).pair
                                (Ty.int IntKind.i64)))).pair
                        ((Ty.int IntKind.i64).pair
                          ((Ty.int IntKind.i64).pair
                            ((Ty.int IntKind.i64).pair
                              (Ty.int IntKind.i64))))))))))),
      eq := true }),
  (35,
    { d := TD.struct [(0, 3), (1, 3), (2, 3), (3, 3), (4, 3), (5, 3), (6, 33), (10, 33)],
      size := 14, bytes := 112,
      zero :=
        [AV.int IntKind.i64 (Int.ofNat 0),
          AV.int IntKind.i64 (Int.ofNat 0),
          AV.int IntKind.i64 (Int.ofNat 0),
          AV.int IntKind.i64 (Int.ofNat 0),
          AV.int IntKind.i64 (Int.ofNat 0),
          AV.int IntKind.i64 (Int.ofNat 0),
          AV.int IntKind.i64 (Int.ofNat 0),
          AV.int IntKind.i64 (Int.ofNat 0),
          AV.int IntKind.i64 (Int.ofNat 0),
          AV.int IntKind.i64 (Int.ofNat 0),
          AV.int IntKind.i64 (Int.ofNat 0),
          AV.int IntKind.i64 (Int.ofNat 0),
          AV.int IntKind.i64 (Int.ofNat 0),
          AV.int IntKind.i64 (Int.ofNat 0)],
      t :=
        some
          ((Ty.int IntKind.i64).pair
            ((Ty.int IntKind.i64).pair
              ((Ty.int IntKind.i64).pair
                ((Ty.int IntKind.i64).pair
                  ((Ty.int IntKind.i64).pair
                    ((Ty.int IntKind.i64).pair
                      (((Ty.int IntKind.i64).pair
                            ((Ty.int IntKind.i64).pair
                              ((Ty.int IntKind.i64).pair
                                (Ty.int IntKind.i64)))).pair
                        ((Ty.int IntKind.i64).pair
                          ((Ty.int IntKind.i64).pair
                            ((Ty.int IntKind.i64).pair
                              (Ty.int IntKind.i64))))))))))),
      eq := true }),
  (36,
    { d := TD.scalar, size := 1, bytes := 8,
      zero := [AV.nilf], t := none, eq := false }),
  (37,
    { d := TD.scalar, size := 1, bytes := 8,
      zero := [AV.nilf], t := none, eq := false }),
  (38,
    { d := TD.scalar, size := 1, bytes := 8,
      zero := [AV.nilf], t := none, eq := false }),
  (39,
    { d := TD.scalar, size := 1, bytes := 8,
      zero := [AV.nilf], t := none, eq := false }),
  (40,
    { d := TD.array 4 3, size := 4, bytes := 32,
      zero :=
        [AV.int IntKind.i64 (Int.ofNat 0),
          AV.int IntKind.i64 (Int.ofNat 0),
          AV.int IntKind.i64 (Int.ofNat 0),
          AV.int IntKind.i64 (Int.ofNat 0)],
      t :=
        some
          ((Ty.int IntKind.i64).pair
            ((Ty.int IntKind.i64).pair
              ((Ty.int IntKind.i64).pair
                (Ty.int IntKind.i64)))),
      eq := true }),
  (41,
    { d := TD.scalar, size := 1, bytes := 8,
      zero := [AV.nilp], t := none, eq := false }),
  (42,
    { d := TD.scalar, size := 1, bytes := 8,
      zero := [AV.nilf], t := none, eq := false }),
  (43,
    { d := TD.slice 40, size := 1, bytes := 24,
      zero :=
        [AV.nils 40
            ((Ty.int IntKind.i64).pair
              ((Ty.int IntKind.i64).pair
                ((Ty.int IntKind.i64).pair
                  (Ty.int IntKind.i64))))],
      t :=
        some
          (Ty.list 40
            ((Ty.int IntKind.i64).pair
              ((Ty.int IntKind.i64).pair
                ((Ty.int IntKind.i64).pair
                  (Ty.int IntKind.i64))))),
      eq := false }),
  (44,
    { d := TD.slice 67, size := 1, bytes := 24,
      zero :=
        [AV.nils 67
            ((Ty.int IntKind.i64).pair
              (((Ty.int IntKind.i64).pair
                    ((Ty.int IntKind.i64).pair
                      ((Ty.int IntKind.i64).pair
                        (Ty.int IntKind.i64)))).pair
                ((Ty.int IntKind.i64).pair
                  (Ty.int IntKind.i64))))],
      t :=
        some
          (Ty.list 67
            ((Ty.int IntKind.i64).pair
              (((Ty.int IntKind.i64).pair
                    ((Ty.int IntKind.i64).pair
                      ((Ty.int IntKind.i64).pair
                        (Ty.int IntKind.i64)))).pair
                ((Ty.int IntKind.i64).pair
                  (Ty.int IntKind.i64))))),
      eq := false }),
  (45,
    { d := TD.struct [(0, 43), (1, 44)], size := 2, bytes := 48,
      zero :=
        [AV.nils 40
            ((Ty.int IntKind.i64).pair
              ((Ty.int IntKind.i64).pair
                ((Ty.int IntKind.i64).pair
                  (Ty.int IntKind.i64)))),
          AV.nils 67
            ((Ty.int IntKind.i64).pair
              (((Ty.int IntKind.i64).pair
                    ((Ty.int IntKind.i64).pair
                      ((Ty.int IntKind.i64).pair
                        (Ty.int IntKind.i64)))).pair
                ((Ty.int IntKind.i64).pair
                  (Ty.int IntKind.i64))))],
      t :=
        some
          ((Ty.list 40
                ((Ty.int IntKind.i64).pair
                  ((Ty.int IntKind.i64).pair
                    ((Ty.int IntKind.i64).pair
                      (Ty.int IntKind.i64))))).pair
            (Ty.list 67
              ((Ty.int IntKind.i64).pair
                (((Ty.int IntKind.i64).pair
                      ((Ty.int IntKind.i64).pair
                        ((Ty.int IntKind.i64).pair
                          (Ty.int IntKind.i64)))).pair
                  ((Ty.int IntKind.i64).pair
                    (Ty.int IntKind.i64)))))),
      eq := false }),
  (46,
    { d := TD.struct [(0, 43), (1, 44)], size := 2, bytes := 48,
      zero :=
        [AV.nils 40
            ((Ty.int IntKind.i64).pair
              ((Ty.int IntKind.i64).pair
                ((Ty.int IntKind.i64).pair
                  (Ty.int IntKind.i64)))),
          AV.nils 67
            ((Ty.int IntKind.i64).pair
              (((Ty.int IntKind.i64).pair
                    ((Ty.int IntKind.i64).pair
                      ((Ty.int IntKind.i64).pair
                        (Ty.int IntKind.i64)))).pair
                ((Ty.int IntKind.i64).pair
                  (Ty.int IntKind.i64))))],
      t :=
        some
          ((Ty.list 40
                ((Ty.int IntKind.i64).pair
                  ((Ty.int IntKind.i64).pair
                    ((Ty.int IntKind.i64).pair
                      (Ty.int IntKind.i64))))).pair
            (Ty.list 67
              ((Ty.int IntKind.i64).pair
                (((Ty.int IntKind.i64).pair
                      ((Ty.int IntKind.i64).pair
                        ((Ty.int IntKind.i64).pair
                          (Ty.int IntKind.i64)))).pair
                  ((Ty.int IntKind.i64).pair
                    (Ty.int IntKind.i64)))))),
      eq := false }),
  (47,
    { d := TD.struct [(0, 3), (1, 3), (2, 3), (3, 3)], size := 4, bytes := 32,
      zero :=
        [AV.int IntKind.i64 (Int.ofNat 0),
          AV.int IntKind.i64 (Int.ofNat 0),
          AV.int IntKind.i64 (Int.ofNat 0),
          AV.int IntKind.i64 (Int.ofNat 0)],
      t :=
        some
          ((Ty.int IntKind.i64).pair
            ((Ty.int IntKind.i64).pair
              ((Ty.int IntKind.i64).pair
                (Ty.int IntKind.i64)))),
      eq := true }),
  (48,
    { d := TD.struct [(0, 3), (1, 3), (2, 3), (3, 3)], size := 4, bytes := 32,
      zero :=
        [AV.int IntKind.i64 (Int.ofNat 0),
          AV.int IntKind.i64 (Int.ofNat 0),
          AV.int IntKind.i64 (Int.ofNat 0),
          AV.int IntKind.i64 (Int.ofNat 0)],
      t :=
        some
          ((Ty.int IntKind.i64).pair
            ((Ty.int IntKind.i64).pair
              ((Ty.int IntKind.i64).pair
                (Ty.int IntKind.i64)))),
      eq := true }),
  (49,
    { d := TD.scalar, size := 1, bytes := 8,
      zero := [AV.nilf], t := none, eq := false }),
  (50,
    { d := TD.struct [(0, 3), (1, 3), (2, 3), (3, 3), (4, 3), (5, 3), (6, 33), (10, 33)],
      size := 14, bytes := 112,
      zero :=
        [AV.int IntKind.i64 (Int.ofNat 0),
          AV.int IntKind.i64 (Int.ofNat 0),
          AV.int IntKind.i64 (Int.ofNat 0),
          AV.int IntKind.i64 (Int.ofNat 0),
          AV.int IntKind.i64 (Int.ofNat 0),
          AV.int IntKind.i64 (Int.ofNat 0),
          AV.int IntKind.i64 (Int.ofNat 0),
          AV.int IntKind.i64 (Int.ofNat 0),
          AV.int IntKind.i64 (Int.ofNat 0),
          AV.int IntKind.i64 (Int.ofNat 0),
          AV.int IntKind.i64 (Int.ofNat 0),
          AV.int IntKind.i64 (Int.ofNat 0),
          AV.int IntKind.i64 (Int.ofNat 0),
          AV.int IntKind.i64 (Int.ofNat 0)],
      t :=
        some
          ((Ty.int IntKind.i64).pair
            ((Ty.int IntKind.i64).pair
              ((Ty.int IntKind.i64).pair
                ((Ty.int IntKind.i64).pair
                  ((Ty.int IntKind.i64).pair
                    ((Ty.int IntKind.i64).pair
                      (((Ty.int IntKind.i64).pair
                            ((Ty.int IntKind.i64).pair
                              ((Ty.int IntKind.i64).pair
                                (Ty.int IntKind.i64)))).pair
                        ((Ty.int IntKind.i64).pair
                          ((Ty.int IntKind.i64).pair
                            ((Ty.int IntKind.i64).pair
                              (Ty.int IntKind.i64))))))))))),
      eq := true }),
  (51,
    { d := TD.scalar, size := 1, bytes := 8,
      zero := [AV.nilf], t := none, eq := false }),
  (52,
    { d := TD.scalar, size := 1, bytes := 8,
      zero := [AV.nilf], t := none, eq := false }),
  (53,
    { d := TD.scalar, size := 1, bytes := 8,
      zero := [AV.nilf], t := none, eq := false }),
  (54,
    { d := TD.scalar, size := 1, bytes := 8,
      zero := [AV.nilf], t := none, eq := false }),
  (55,
    { d := TD.scalar, size := 1, bytes := 8,
      zero := [AV.nilf], t := none, eq := false }),
  (56,
    { d := TD.scalar, size := 1, bytes := 8,
      zero := [AV.nilf], t := none, eq := false }),
  (57,
    { d := TD.scalar, size := 1, bytes := 8,
      zero := [AV.nilf], t := none, eq := false }),
  (58,
    { d := TD.scalar, size := 1, bytes := 8,
      zero := [AV.nilf], t := none, eq := false }),
  (59,
    { d := TD.scalar, size := 1, bytes := 8,
      zero := [AV.nilf], t := none, eq := false }),
  (60,
    { d := TD.slice 63, size := 1, bytes := 24,
      zero := [AV.nil0], t := none, eq := false }),
  (61,
    { d := TD.scalar, size := 1, bytes := 8,
      zero := [AV.nilf], t := none, eq := false }),
  (62,
    { d := TD.scalar, size := 1, bytes := 8,
      zero := [AV.nilp], t := none, eq := false }),
  (63,
    { d := TD.scalar, size := 1, bytes := 8,
      zero := [AV.nilp], t := none, eq := false }),
  (64,
    { d := TD.unk, size := 0, bytes := 0, zero := [], t := none,
      eq := false }),
  (65,
    { d := TD.scalar, size := 1, bytes := 8,
      zero := [AV.nilf], t := none, eq := false }),
  (66,
    { d := TD.struct [(0, 3), (1, 40), (5, 3), (6, 3)], size := 7, bytes := 56,
      zero :=
        [AV.int IntKind.i64 (Int.ofNat 0),
          AV.int IntKind.i64 (Int.ofNat 0),
          AV.int IntKind.i64 (Int.ofNat 0),
          AV.int IntKind.i64 (Int.ofNat 0),
          AV.int IntKind.i64 (Int.ofNat 0),
          AV.int IntKind.i64 (Int.ofNat 0),
          AV.int IntKind.i64 (Int.ofNat 0)],
      t :=
        some
          ((Ty.int IntKind.i64).pair
            (((Ty.int IntKind.i64).pair
                  ((Ty.int IntKind.i64).pair
                    ((Ty.int IntKind.i64).pair
                      (Ty.int IntKind.i64)))).pair
              ((Ty.int IntKind.i64).pair
                (Ty.int IntKind.i64)))),
      eq := true }),
  (67,
    { d := TD.struct [(0, 3), (1, 40), (5, 3), (6, 3)], size := 7, bytes := 56,
      zero :=
        [AV.int IntKind.i64 (Int.ofNat 0),
          AV.int IntKind.i64 (Int.ofNat 0),
          AV.int IntKind.i64 (Int.ofNat 0),
          AV.int IntKind.i64 (Int.ofNat 0),
          AV.int IntKind.i64 (Int.ofNat 0),
          AV.int IntKind.i64 (Int.ofNat 0),
          AV.int IntKind.i64 (Int.ofNat 0)],
      t :=
        some
          ((Ty.int IntKind.i64).pair
            (((Ty.int IntKind.i64).pair
                  ((Ty.int IntKind.i64).pair
                    ((Ty.int IntKind.i64).pair
                      (Ty.int IntKind.i64)))).pair
              ((Ty.int IntKind.i64).pair
                (Ty.int IntKind.i64)))),
      eq := true }),
  (68,
    { d := TD.scalar, size := 1, bytes := 8,
      zero := [AV.nilf], t := none, eq := false }),
  (69,
    { d := TD.unk, size := 0, bytes := 0, zero := [], t := none,
      eq := false }),
  (70,
    { d := TD.scalar, size := 1, bytes := 8,
      zero := [AV.nilf], t := none, eq := false }),
  (71,
    { d := TD.slice 78, size := 1, bytes := 24,
      zero :=
        [AV.nils 78
            ((Ty.int IntKind.i64).pair
              ((Ty.int IntKind.i64).pair
                (Ty.int IntKind.i64)))],
      t :=
        some
          (Ty.list 78
            ((Ty.int IntKind.i64).pair
              ((Ty.int IntKind.i64).pair
                (Ty.int IntKind.i64)))),
      eq := false }),
  (72,
    { d := TD.scalar, size := 1, bytes := 8,
      zero := [AV.nilf], t := none, eq := false }),
  (73,
    { d := TD.slice 48, size := 1, bytes := 24,
      zero :=
        [AV.nils 48
            ((Ty.int IntKind.i64).pair
              ((Ty.int IntKind.i64).pair
                ((Ty.int IntKind.i64).pair
                  (Ty.int IntKind.i64))))],
      t :=
        some
          (Ty.list 48
            ((Ty.int IntKind.i64).pair
              ((Ty.int IntKind.i64).pair
                ((Ty.int IntKind.i64).pair
                  (Ty.int IntKind.i64))))),
      eq := false }),
  (74,
    { d := TD.slice 106, size := 1, bytes := 24,
      zero :=
        [AV.nils 106
            ((Ty.int IntKind.i64).pair
              (((Ty.int IntKind.i64).pair
                    ((Ty.int IntKind.i64).pair
                      ((Ty.int IntKind.i64).pair
                        (Ty.int IntKind.i64)))).pair
                ((Ty.int IntKind.i64).pair
                  (Ty.int IntKind.i64))))],
      t :=
        some
          (Ty.list 106
            ((Ty.int IntKind.i64).pair
              (((Ty.int IntKind.i64).pair
                    ((Ty.int IntKind.i64).pair
                      ((Ty.int IntKind.i64).pair
                        (Ty.int IntKind.i64)))).pair
                ((Ty.int IntKind.i64).pair
                  (Ty.int IntKind.i64))))),
      eq := false }),
  (75,
    { d := TD.struct [(0, 73), (1, 74)], size := 2, bytes := 48,
      zero :=
        [AV.nils 48
            ((Ty.int IntKind.i64).pair
              ((Ty.int IntKind.i64).pair
                ((Ty.int IntKind.i64).pair
                  (Ty.int IntKind.i64)))),
          AV.nils 106
            ((Ty.int IntKind.i64).pair
              (((Ty.int IntKind.i64).pair
                    ((Ty.int IntKind.i64).pair
                      ((Ty.int IntKind.i64).pair
                        (Ty.int IntKind.i64)))).pair
                ((Ty.int IntKind.i64).pair
                  (Ty.int IntKind.i64))))],
      t :=
        some
          ((Ty.list 48
                ((Ty.int IntKind.i64).pair
                  ((Ty.int IntKind.i64).pair
                    ((Ty.int IntKind.i64).pair
                      (Ty.int IntKind.i64))))).pair
            (Ty.list 106
              ((Ty.int IntKind.i64).pair
                (((Ty.int IntKind.i64).pair
                      ((Ty.int IntKind.i64).pair
                        ((Ty.int IntKind.i64).pair
                          (Ty.int IntKind.i64)))).pair
                  ((Ty.int IntKind.i64).pair
                    (Ty.int IntKind.i64)))))),
      eq := false }),
  (76,
    { d := TD.struct [(0, 73), (1, 74)], size := 2, bytes := 48,
      zero :=
        [AV.nils 48
            ((Ty.int IntKind.i64).pair
              ((Ty.int IntKind.i64).pair
                ((Ty.int IntKind.i64).pair
                  (Ty.int IntKind.i64)))),
          AV.nils 106
            ((Ty.int IntKind.i64).pair
              (((Ty.int IntKind.i64).pair
                    ((Ty.int IntKind.i64).pair
                      ((Ty.int IntKind.i64).pair
                        (Ty.int IntKind.i64)))).pair
                ((Ty.int IntKind.i64).pair
                  (Ty.int IntKind.i64))))],
      t :=
        some
          ((Ty.list 48
                ((Ty.int IntKind.i64).pair
                  ((Ty.int IntKind.i64).pair
                    ((Ty.int IntKind.i64).pair
                      (Ty.int IntKind.i64))))).pair
            (Ty.list 106
              ((Ty.int IntKind.i64).pair
                (((Ty.int IntKind.i64).pair
                      ((Ty.int IntKind.i64).pair
                        ((Ty.int IntKind.i64).pair
                          (Ty.int IntKind.i64)))).pair
                  ((Ty.int IntKind.i64).pair
                    (Ty.int IntKind.i64)))))),
      eq := false }),
  (77,
    { d := TD.struct [(0, 3), (1, 3), (2, 3)], size := 3, bytes := 24,
      zero :=
        [AV.int IntKind.i64 (Int.ofNat 0),
          AV.int IntKind.i64 (Int.ofNat 0),
          AV.int IntKind.i64 (Int.ofNat 0)],
      t :=
        some
          ((Ty.int IntKind.i64).pair
            ((Ty.int IntKind.i64).pair
              (Ty.int IntKind.i64))),
      eq := true }),
  (78,
    { d := TD.struct [(0, 3), (1, 3), (2, 3)], size := 3, bytes := 24,
      zero :=
        [AV.int IntKind.i64 (Int.ofNat 0),
          AV.int IntKind.i64 (Int.ofNat 0),
          AV.int IntKind.i64 (Int.ofNat 0)],
      t :=
        some
          ((Ty.int IntKind.i64).pair
            ((Ty.int IntKind.i64).pair
              (Ty.int IntKind.i64))),
      eq := true }),
  (79,
    { d := TD.scalar, size := 1, bytes := 8,
      zero := [AV.nilf], t := none, eq := false }),
  (80,
    { d := TD.scalar, size := 1, bytes := 8,
      zero := [AV.nilf], t := none, eq := false }),
  (81,
    { d := TD.scalar, size := 1, bytes := 8,
      zero := [AV.nilf], t := none, eq := false }),
  (82,
    { d := TD.scalar, size := 1, bytes := 8,
      zero := [AV.nilf], t := none, eq := false }),
  (83,
    { d := TD.scalar, size := 1, bytes := 8,
      zero := [AV.nilf], t := none, eq := false }),
  (84,
    { d := TD.scalar, size := 1, bytes := 8,
      zero := [AV.nilf], t := none, eq := false }),
  (85,
    { d := TD.scalar, size := 1, bytes := 8,
      zero := [AV.nilf], t := none, eq := false }),
  (86,
    { d := TD.struct [(0, 3), (1, 4)], size := 2, bytes := 16,
      zero :=
        [AV.int IntKind.i64 (Int.ofNat 0),
          AV.bool false],
      t :=
        some ((Ty.int IntKind.i64).pair Ty.bool),
      eq := true }),
  (87,
    { d := TD.struct [(0, 3), (1, 4)], size := 2, bytes := 16,
      zero :=
        [AV.int IntKind.i64 (Int.ofNat 0),
          AV.bool false],
      t :=
        some ((Ty.int IntKind.i64).pair Ty.bool),
      eq := true }),
  (88,
    { d := TD.scalar, size := 1, bytes := 8,
      zero := [AV.nilf], t := none, eq := false }),
  (89,
    { d := TD.scalar, size := 1, bytes := 8,
      zero := [AV.nilf], t := none, eq := false }),
  (90,
    { d := TD.scalar, size := 1, bytes := 8,
      zero := [AV.nilf], t := none, eq := false }),
  (91,
    { d := TD.scalar, size := 1, bytes := 8,
      zero := [AV.nilf], t := none, eq := false }),
  (92,
    { d := TD.slice 98, size := 1, bytes := 24,
      zero :=
        [AV.nils 98
            (((Ty.int IntKind.i64).pair
                  ((Ty.int IntKind.i64).pair
                    ((Ty.int IntKind.i64).pair
                      ((Ty.int IntKind.i64).pair
                        ((Ty.int IntKind.i64).pair
                          ((Ty.int IntKind.i64).pair
                            (((Ty.int IntKind.i64).pair
                                  ((Ty.int IntKind.i64).pair
                                    ((Ty.int IntKind.i64).pair
                                      (Ty.int IntKind.i64)))).pair
                              ((Ty.int IntKind.i64).pair
                                ((Ty.int IntKind.i64).pair
                                  ((Ty.int IntKind.i64).pair
                                    (Ty.int IntKind.i64))))))))))).pair
              ((Ty.int IntKind.i64).pair
                ((Ty.int IntKind.i64).pair
                  ((Ty.int IntKind.i64).pair
                    (Ty.list 3
                      (Ty.int IntKind.i64))))))],
      t :=
        some
          (Ty.list 98
            (((Ty.int IntKind.i64).pair
                  ((Ty.int IntKind.i64).pair
                    ((Ty.int IntKind.i64).pair
                      ((Ty.int IntKind.i64).pair
                        ((Ty.int IntKind.i64).pair
                          ((Ty.int IntKind.i64).pair
                            (((Ty.int IntKind.i64).pair
                                  ((Ty.int IntKind.i64).pair
                                    ((Ty.int IntKind.i64).pair
                                      (Ty.int IntKind.i64)))).pair
                              ((Ty.int IntKind.i64).pair
                                ((Ty.int IntKind.i64).pair
                                  ((Ty.int IntKind.i64).pair
                                    (Ty.int IntKind.i64))))))))))).pair
              ((Ty.int IntKind.i64).pair
                ((Ty.int IntKind.i64).pair
                  ((Ty.int IntKind.i64).pair
                    (Ty.list 3
                      (Ty.int IntKind.i64))))))),
      eq := false }),
  (93,
    { d := TD.struct [(0, 92)], size := 1, bytes := 24,
      zero :=
        [AV.nils 98
            (((Ty.int IntKind.i64).pair
                  ((Ty.int IntKind.i64).pair
                    ((Ty.int IntKind.i64).pair
                      ((Ty.int IntKind.i64).pair
                        ((Ty.int IntKind.i64).pair
                          ((Ty.int IntKind.i64).pair
                            (((Ty.int IntKind.i64).pair
                                  ((Ty.int IntKind.i64).pair
                                    ((Ty.int IntKind.i64).pair
                                      (Ty.int IntKind.i64)))).pair
                              ((Ty.int IntKind.i64).pair
                                ((Ty.int IntKind.i64).pair
                                  ((Ty.int IntKind.i64).pair
                                    (Ty.int IntKind.i64))))))))))).pair
              ((Ty.int IntKind.i64).pair
                ((Ty.int IntKind.i64).pair
                  ((Ty.int IntKind.i64).pair
                    (Ty.list 3
                      (Ty.int IntKind.i64))))))],
      t :=
        some
          (Ty.list 98
            (((Ty.int IntKind.i64).pair
                  ((Ty.int IntKind.i64).pair
                    ((Ty.int IntKind.i64).pair
                      ((Ty.int IntKind.i64).pair
                        ((Ty.int IntKind.i64).pair
                          ((Ty.int IntKind.i64).pair
                            (((Ty.int IntKind.i64).pair
                                  ((Ty.int IntKind.i64).pair
                                    ((Ty.int IntKind.i64).pair
                                      (Ty.int IntKind.i64)))).pair
                              ((Ty.int IntKind.i64).pair
                                ((Ty.int IntKind.i64).pair
                                  ((Ty.int IntKind.i64).pair
                                    (Ty.int IntKind.i64))))))))))).pair
              ((Ty.int IntKind.i64).pair
                ((Ty.int IntKind.i64).pair
                  ((Ty.int IntKind.i64).pair
                    (Ty.list 3
                      (Ty.int IntKind.i64))))))),
      eq := false }),
  (94,
    { d := TD.struct [(0, 92)], size := 1, bytes := 24,
      zero :=
        [AV.nils 98
            (((Ty.int IntKind.i64).pair
                  ((Ty.int IntKind.i64).pair
                    ((Ty.int IntKind.i64).pair
                      ((Ty.int IntKind.i64).pair
                        ((Ty.int IntKind.i64).pair
                          ((Ty.int IntKind.i64).pair
                            (((Ty.int IntKind.i64).pair
                                  ((Ty.int IntKind.i64).pair
                                    ((Ty.int IntKind.i64).pair
                                      (Ty.int IntKind.i64)))).pair
                              ((Ty.int IntKind.i64).pair
                                ((Ty.int IntKind.i64).pair
                                  ((Ty.int IntKind.i64).pair
                                    (Ty.int IntKind.i64))))))))))).pair
              ((Ty.int IntKind.i64).pair
                ((Ty.int IntKind.i64).pair
                  ((Ty.int IntKind.i64).pair
                    (Ty.list 3
                      (Ty.int IntKind.i64))))))],
      t :=
        some
          (Ty.list 98
            (((Ty.int IntKind.i64).pair
                  ((Ty.int IntKind.i64).pair
                    ((Ty.int IntKind.i64).pair
                      ((Ty.int IntKind.i64).pair
                        ((Ty.int IntKind.i64).pair
                          ((Ty.int IntKind.i64).pair
                            (((Ty.int IntKind.i64).pair
                                  ((Ty.int IntKind.i64).pair
                                    ((Ty.int IntKind.i64).pair
                                      (Ty.int IntKind.i64)))).pair
                              ((Ty.int IntKind.i64).pair
                                ((Ty.int IntKind.i64).pair
                                  ((Ty.int IntKind.i64).pair
                                    (Ty.int IntKind.i64))))))))))).pair
              ((Ty.int IntKind.i64).pair
                ((Ty.int IntKind.i64).pair
                  ((Ty.int IntKind.i64).pair
                    (Ty.list 3
                      (Ty.int IntKind.i64))))))),
      eq := false }),
  (95,
    { d := TD.scalar, size := 1, bytes := 8,
      zero := [AV.nilf], t := none, eq := false }),
  (96,
    { d := TD.scalar, size := 1, bytes := 8,
      zero := [AV.nilf], t := none, eq := false }),
  (97,
    { d := TD.struct [(0, 50), (14, 3), (15, 3), (16, 3), (17, 23)], size := 18,
      bytes := 160,
      zero :=
        [AV.int IntKind.i64 (Int.ofNat 0),
          AV.int IntKind.i64 (Int.ofNat 0),
          AV.int IntKind.i64 (Int.ofNat 0),
          AV.int IntKind.i64 (Int.ofNat 0),
          AV.int IntKind.i64 (Int.ofNat 0),
          AV.int IntKind.i64 (Int.ofNat 0),
          AV.int IntKind.i64 (Int.ofNat 0),
          AV.int IntKind.i64 (Int.ofNat 0),
          AV.int IntKind.i64 (Int.ofNat 0),
          AV.int IntKind.i64 (Int.ofNat 0),
          AV.int IntKind.i64 (Int.ofNat 0),
          AV.int IntKind.i64 (Int.ofNat 0),
          AV.int IntKind.i64 (Int.ofNat 0),
          AV.int IntKind.i64 (Int.ofNat 0),
          AV.int IntKind.i64 (Int.ofNat 0),
          AV.int IntKind.i64 (Int.ofNat 0),
          AV.int IntKind.i64 (Int.ofNat 0),
          AV.nils 3 (Ty.int IntKind.i64)],
      t :=
        some
          (((Ty.int IntKind.i64).pair
                ((Ty.int IntKind.i64).pair
                  ((Ty.int IntKind.i64).pair
                    ((Ty.int IntKind.i64).pair
                      ((Ty.int IntKind.i64).pair
                        ((Ty.int IntKind.i64).pair
                          (((Ty.int IntKind.i64).pair
                                ((Ty.int IntKind.i64).pair
                                  ((Ty.int IntKind.i64).pair
                                    (Ty.int IntKind.i64)))).pair
                            ((Ty.int IntKind.i64).pair
                              ((Ty.int IntKind.i64).pair
                                ((Ty.int IntKind.i64).pair
                                  (Ty.int IntKind.i64))))))))))).pair
            ((Ty.int IntKind.i64).pair
              ((Ty.int IntKind.i64).pair
                ((Ty.int IntKind.i64).pair
                  (Ty.list 3 (Ty.int IntKind.i64)))))),
      eq := false }),
  (98,
    { d := TD.struct [(0, 50), (14, 3), (15, 3), (16, 3), (17, 23)], size := 18,
      bytes := 160,
      zero :=
        [AV.int IntKind.i64 (Int.ofNat 0),
          AV.int IntKind.i64 (Int.ofNat 0),
          AV.int IntKind.i64 (Int.ofNat 0),
          AV.int IntKind.i64 (Int.ofNat 0),
          AV.int IntKind.i64 (Int.ofNat 0),
          AV.int IntKind.i64 (Int.ofNat 0),
          AV.int IntKind.i64 (Int.ofNat 0),
          AV.int IntKind.i64 (Int.ofNat 0),
          AV.int IntKind.i64 (Int.ofNat 0),
          AV.int IntKind.i64 (Int.ofNat 0),
          AV.int IntKind.i64 (Int.ofNat 0),
          AV.int IntKind.i64 (Int.ofNat 0),
          AV.int IntKind.i64 (Int.ofNat 0),
          AV.int IntKind.i64 (Int.ofNat 0),
          AV.int IntKind.i64 (Int.ofNat 0),
          AV.int IntKind.i64 (Int.ofNat 0),
          AV.int IntKind.i64 (Int.ofNat 0),
          AV.nils 3 (Ty.int IntKind.i64)],
      t :=
        some
          (((Ty.int IntKind.i64).pair
                ((Ty.int IntKind.i64).pair
                  ((Ty.int IntKind.i64).pair
                    ((Ty.int IntKind.i64).pair
                      ((Ty.int IntKind.i64).pair
                        ((Ty.int IntKind.i64).pair
                          (((Ty.int IntKind.i64).pair
                                ((Ty.int IntKind.i64).pair
                                  ((Ty.int IntKind.i64).pair
                                    (Ty.int IntKind.i64)))).pair
                            ((Ty.int IntKind.i64).pair
                              ((Ty.int IntKind.i64).pair
                                ((Ty.int IntKind.i64).pair
                                  (Ty.int IntKind.i64))))))))))).pair
            ((Ty.int IntKind.i64).pair
              ((Ty.int IntKind.i64).pair
                ((Ty.int IntKind.i64).pair
                  (Ty.list 3 (Ty.int IntKind.i64)))))),
      eq := false }),
  (99,
    { d := TD.scalar, size := 1, bytes := 8,
      zero := [AV.nilf], t := none, eq := false }),
  (100,
    { d := TD.scalar, size := 1, bytes := 8,
      zero := [AV.nilp], t := none, eq := false }),
  (101,
    { d := TD.struct [(0, 41), (1, 76), (3, 71)], size := 4, bytes := 80,
      zero :=
        [AV.nilp,
          AV.nils 48
            ((Ty.int IntKind.i64).pair
              ((Ty.int IntKind.i64).pair
                ((Ty.int IntKind.i64).pair
                  (Ty.int IntKind.i64)))),
          AV.nils 106
            ((Ty.int IntKind.i64).pair
              (((Ty.int IntKind.i64).pair
                    ((Ty.int IntKind.i64).pair
                      ((Ty.int IntKind.i64).pair
                        (Ty.int IntKind.i64)))).pair
                ((Ty.int IntKind.i64).pair
                  (Ty.int IntKind.i64)))),
          AV.nils 78
            ((Ty.int IntKind.i64).pair
              ((Ty.int IntKind.i64).pair
                (Ty.int IntKind.i64)))],
      t := none, eq := false }),
  (102,
    { d := TD.struct [(0, 41), (1, 76), (3, 71)], size := 4, bytes := 80,
      zero :=
        [AV.nilp,
          AV.nils 48
            ((Ty.int IntKind.i64).pair
              ((Ty.int IntKind.i64).pair
                ((Ty.int IntKind.i64).pair
                  (Ty.int IntKind.i64)))),
          AV.nils 106
            ((Ty.int IntKind.i64).pair
              (((Ty.int IntKind.i64).pair
                    ((Ty.int IntKind.i64).pair
                      ((Ty.int IntKind.i64).pair
                        (Ty.int IntKind.i64)))).pair
                ((Ty.int IntKind.i64).pair
                  (Ty.int IntKind.i64)))),
          AV.nils 78
            ((Ty.int IntKind.i64).pair
              ((Ty.int IntKind.i64).pair
                (Ty.int IntKind.i64)))],
      t := none, eq := false }),
  (103,
    { d := TD.scalar, size := 1, bytes := 8,
      zero := [AV.nilf], t := none, eq := false }),
  (104,
    { d := TD.scalar, size := 1, bytes := 8,
      zero := [AV.nilf], t := none, eq := false }),
  (105,
    { d := TD.struct [(0, 3), (1, 48), (5, 3), (6, 3)], size := 7, bytes := 56,
      zero :=
        [AV.int IntKind.i64 (Int.ofNat 0),
          AV.int IntKind.i64 (Int.ofNat 0),
          AV.int IntKind.i64 (Int.ofNat 0),
          AV.int IntKind.i64 (Int.ofNat 0),
          AV.int IntKind.i64 (Int.ofNat 0),
          AV.int IntKind.i64 (Int.ofNat 0),
          AV.int IntKind.i64 (Int.ofNat 0)],
      t :=
        some
          ((Ty.int IntKind.i64).pair
            (((Ty.int IntKind.i64).pair
                  ((Ty.int IntKind.i64).pair
                    ((Ty.int IntKind.i64).pair
                      (Ty.int IntKind.i64)))).pair
              ((Ty.int IntKind.i64).pair
                (Ty.int IntKind.i64)))),
      eq := true }),
  (106,
    { d := TD.struct [(0, 3), (1, 48), (5, 3), (6, 3)], size := 7, bytes := 56,
      zero :=
        [AV.int IntKind.i64 (Int.ofNat 0),
          AV.int IntKind.i64 (Int.ofNat 0),
          AV.int IntKind.i64 (Int.ofNat 0),
          AV.int IntKind.i64 (Int.ofNat 0),
          AV.int IntKind.i64 (Int.ofNat 0),
          AV.int IntKind.i64 (Int.ofNat 0),
          AV.int IntKind.i64 (Int.ofNat 0)],
      t :=
        some
          ((Ty.int IntKind.i64).pair
            (((Ty.int IntKind.i64).pair
                  ((Ty.int IntKind.i64).pair
                    ((Ty.int IntKind.i64).pair
                      (Ty.int IntKind.i64)))).pair
              ((Ty.int IntKind.i64).pair
                (Ty.int IntKind.i64)))),
      eq := true }),
  (107,
    { d := TD.scalar, size := 1, bytes := 8,
      zero := [AV.nilf], t := none, eq := false }),
  (108,
    { d := TD.scalar, size := 1, bytes := 8,
      zero := [AV.nilf], t := none, eq := false }),
  (109,
    { d := TD.scalar, size := 1, bytes := 8,
      zero := [AV.nilf], t := none, eq := false }),
  (110,
    { d := TD.scalar, size := 1, bytes := 8,
      zero := [AV.nilf], t := none, eq := false }),
  (111,
    { d := TD.scalar, size := 1, bytes := 8,
      zero := [AV.nilf], t := none, eq := false }),
  (112,
    { d := TD.scalar, size := 1, bytes := 8,
      zero := [AV.nilf], t := none, eq := false }),
  (113,
    { d := TD.scalar, size := 1, bytes := 8,
      zero := [AV.nilf], t := none, eq := false }),
  (114,
    { d := TD.scalar, size := 1, bytes := 8,
      zero := [AV.nilf], t := none, eq := false }),
  (115,
    { d := TD.scalar, size := 1, bytes := 8,
      zero := [AV.nilf], t := none, eq := false }),
  (116,
    { d := TD.scalar, size := 1, bytes := 8,
      zero := [AV.nilf], t := none, eq := false }),
  (117,
    { d := TD.slice 9, size := 1, bytes := 24,
      zero := [AV.nils 9 Ty.str],
      t := some (Ty.list 9 Ty.str),
      eq := false }),
  (118,
    { d := TD.scalar, size := 1, bytes := 8,
      zero := [AV.nilf], t := none, eq := false }),
  (119,
    { d := TD.scalar, size := 1, bytes := 8,
      zero := [AV.nilf], t := none, eq := false }),
  (120,
    { d := TD.struct [(0, 3), (1, 3)], size := 2, bytes := 16,
      zero :=
        [AV.int IntKind.i64 (Int.ofNat 0),
          AV.int IntKind.i64 (Int.ofNat 0)],
      t :=
        some
          ((Ty.int IntKind.i64).pair
            (Ty.int IntKind.i64)),
      eq := true }),
  (121,
    { d := TD.struct [(0, 3), (1, 3)], size := 2, bytes := 16,
      zero :=
        [AV.int IntKind.i64 (Int.ofNat 0),
          AV.int IntKind.i64 (Int.ofNat 0)],
      t :=
        some
          ((Ty.int IntKind.i64).pair
            (Ty.int IntKind.i64)),
      eq := true }),
  (122,
    { d := TD.scalar, size := 1, bytes := 8,
      zero := [AV.nilf], t := none, eq := false }),
  (123,
    { d := TD.scalar, size := 1, bytes := 8,
      zero := [AV.nilf], t := none, eq := false }),
  (124,
    { d := TD.scalar, size := 1, bytes := 8,
      zero := [AV.nilf], t := none, eq := false }),
  (125,
    { d := TD.scalar, size := 1, bytes := 8,
      zero := [AV.nilf], t := none, eq := false }),
  (126,
    { d := TD.scalar, size := 1, bytes := 8,
      zero := [AV.nilf], t := none, eq := false }),
  (127,
    { d := TD.scalar, size := 1, bytes := 8,
      zero := [AV.int IntKind.u64 (Int.ofNat 0)],
      t := some (Ty.int IntKind.u64), eq := true }),
  (128,
    { d := TD.scalar, size := 1, bytes := 8,
      zero := [AV.nilf], t := none, eq := false }),
  (129,
    { d := TD.scalar, size := 1, bytes := 8,
      zero := [AV.nilf], t := none, eq := false }),
  (130,
    { d := TD.scalar, size := 1, bytes := 8,
      zero := [AV.nilp], t := none, eq := false }),
  (131,
    { d := TD.slice 87, size := 1, bytes := 24,
      zero :=
        [AV.nils 87
            ((Ty.int IntKind.i64).pair Ty.bool)],
      t :=
        some
          (Ty.list 87
            ((Ty.int IntKind.i64).pair Ty.bool)),
      eq := false }),
  (132,
    { d := TD.struct [(0, 41), (1, 131), (2, 115)], size := 3, bytes := 40,
      zero :=
        [AV.nilp,
          AV.nils 87
            ((Ty.int IntKind.i64).pair Ty.bool),
          AV.nilf],
      t := none, eq := false }),
  (133,
    { d := TD.struct [(0, 41), (1, 131), (2, 115)], size := 3, bytes := 40,
      zero :=
        [AV.nilp,
          AV.nils 87
            ((Ty.int IntKind.i64).pair Ty.bool),
          AV.nilf],
      t := none, eq := false }),
  (134,
    { d := TD.scalar, size := 1, bytes := 8,
      zero := [AV.nilf], t := none, eq := false }),
  (135,
    { d := TD.slice 139, size := 1, bytes := 24,
      zero := [AV.nil0], t := none, eq := false }),
  (136,
    { d := TD.scalar, size := 1, bytes := 8,
      zero := [AV.nilf], t := none, eq := false }),
  (137,
    { d := TD.scalar, size := 1, bytes := 8,
      zero := [AV.nilf], t := none, eq := false }),
  (138,
    { d := TD.struct [(0, 25), (1, 137)], size := 2, bytes := 16,
      zero :=
        [AV.int IntKind.i64 (Int.ofNat 0), AV.nilf],
      t := none, eq := false }),
  (139,
    { d := TD.struct [(0, 25), (1, 137)], size := 2, bytes := 16,
      zero :=
        [AV.int IntKind.i64 (Int.ofNat 0), AV.nilf],
      t := none, eq := false }),
  (140,
    { d := TD.scalar, size := 1, bytes := 8,
      zero := [AV.nilf], t := none, eq := false }),
  (141,
    { d := TD.scalar, size := 1, bytes := 8,
      zero := [AV.nilf], t := none, eq := false }),
  (142,
    { d := TD.scalar, size := 1, bytes := 8,
      zero := [AV.nilf], t := none, eq := false }),
  (143,
    { d := TD.scalar, size := 1, bytes := 8,
      zero := [AV.int IntKind.i64 (Int.ofNat 0)],
      t := some (Ty.int IntKind.i64), eq := true }),
  (144,
    { d := TD.unk, size := 0, bytes := 0, zero := [], t := none,
      eq := false }),
  (145,
    { d := TD.scalar, size := 1, bytes := 8,
      zero := [AV.nilf], t := none, eq := false }),
  (146,
    { d := TD.scalar, size := 1, bytes := 8,
      zero := [AV.nilf], t := none, eq := false }),
  (147,
    { d := TD.scalar, size := 1, bytes := 8,
      zero := [AV.nilf], t := none, eq := false }),
  (148,
    { d := TD.unk, size := 0, bytes := 0, zero := [], t := none,
      eq := false }),
  (149,
    { d := TD.scalar, size := 1, bytes := 8,
      zero := [AV.nilf], t := none, eq := false }),
  (150,
    { d := TD.scalar, size := 1, bytes := 8,
      zero := [AV.nilf], t := none, eq := false }),
  (151,
    { d := TD.scalar, size := 1, bytes := 4,
      zero := [AV.int IntKind.u32 (Int.ofNat 0)],
      t := some (Ty.int IntKind.u32), eq := true }),
  (152,
    { d := TD.scalar, size := 1, bytes := 8,
      zero := [AV.nilf], t := none, eq := false }),
  (153,
    { d := TD.scalar, size := 1, bytes := 8,
      zero := [AV.int IntKind.u64 (Int.ofNat 0)],
      t := some (Ty.int IntKind.u64), eq := true }),
  (154,
    { d := TD.scalar, size := 1, bytes := 8,
      zero := [AV.nilf], t := none, eq := false }),
  (155,
    { d := TD.scalar, size := 1, bytes := 8,
      zero := [AV.nilf], t := none, eq := false }),
  (156,
    { d := TD.scalar, size := 1, bytes := 8,
      zero := [AV.nilf], t := none, eq := false }),
  (157,
    { d := TD.scalar, size := 1, bytes := 8,
      zero := [AV.nilf], t := none, eq := false }),
  (158,
    { d := TD.scalar, size := 1, bytes := 8,
      zero := [AV.nilf], t := none, eq := false }),
  (159,
    { d := TD.scalar, size := 1, bytes := 8,
      zero := [AV.nilf], t := none, eq := false }),
  (160,
    { d := TD.scalar, size := 1, bytes := 8,
      zero := [AV.nilf], t := none, eq := false }),
  (161,
    { d := TD.scalar, size := 1, bytes := 8,
      zero := [AV.nilf], t := none, eq := false }),
  (162,
    { d := TD.scalar, size := 1, bytes := 8,
      zero := [AV.nilf], t := none, eq := false }),
  (163,
    { d := TD.scalar, size := 1, bytes := 8,
      zero := [AV.int IntKind.u64 (Int.ofNat 0)],
      t := some (Ty.int IntKind.u64), eq := true }),
  (164,
    { d := TD.scalar, size := 1, bytes := 8,
      zero := [AV.nilf], t := none, eq := false }),
  (165,
    { d := TD.scalar, size := 1, bytes := 8,
      zero := [AV.nilf], t := none, eq := false }),
  (166,
    { d := TD.scalar, size := 1, bytes := 8,
      zero := [AV.nilf], t := none, eq := false }),
  (167,
    { d := TD.scalar, size := 1, bytes := 8,
      zero := [AV.nilf], t := none, eq := false }),
  (168,
    { d := TD.scalar, size := 1, bytes := 8,
      zero := [AV.nilf], t := none, eq := false }),
  (169,
    { d := TD.scalar, size := 1, bytes := 8,
      zero := [AV.nilp], t := none, eq := false }),
  (170,
    { d := TD.scalar, size := 1, bytes := 8,
      zero := [AV.nilf], t := none, eq := false }),
  (171,
    { d := TD.scalar, size := 1, bytes := 8,
      zero := [AV.nilf], t := none, eq := false }),
  (172,
    { d := TD.struct [(0, 17), (1, 17), (2, 17), (3, 9)], size := 4, bytes := 40,
      zero :=
        [AV.nilp, AV.nilp,
          AV.nilp, AV.str { data := { toList := [] } }],
      t := none, eq := false }),
  (173,
    { d := TD.struct [(0, 17), (1, 17), (2, 17), (3, 9)], size := 4, bytes := 40,
      zero :=
        [AV.nilp, AV.nilp,
          AV.nilp, AV.str { data := { toList := [] } }],
      t := none, eq := false }),
  (174,
    { d := TD.array 0 16, size := 0, bytes := 0, zero := [], t := none,
      eq := false }),
  (175,
    { d := TD.struct [(0, 174)], size := 0, bytes := 0, zero := [], t := none,
      eq := false }),
  (176,
    { d := TD.struct [(0, 174)], size := 0, bytes := 0, zero := [], t := none,
      eq := false }),
  (177,
    { d := TD.scalar, size := 1, bytes := 1,
      zero := [AV.int IntKind.u8 (Int.ofNat 0)],
      t := some (Ty.int IntKind.u8), eq := true }),
  (178,
    { d := TD.scalar, size := 1, bytes := 1,
      zero := [AV.int IntKind.u8 (Int.ofNat 0)],
      t := some (Ty.int IntKind.u8), eq := true }),
  (179,
    { d := TD.scalar, size := 1, bytes := 8,
      zero := [AV.nilf], t := none, eq := false }),
  (180,
    { d := TD.scalar, size := 1, bytes := 8,
      zero := [AV.nilp], t := none, eq := false }),
  (181,
    { d := TD.scalar, size := 1, bytes := 4,
      zero := [AV.int IntKind.i32 (Int.ofNat 0)],
      t := some (Ty.int IntKind.i32), eq := true }),
  (182,
    { d := TD.scalar, size := 1, bytes := 4,
      zero := [AV.int IntKind.i32 (Int.ofNat 0)],
      t := some (Ty.int IntKind.i32), eq := true }),
  (183,
    {
      d :=
        TD.struct
          [(0, 12), (1, 12), (2, 151), (3, 177), (4, 5), (5, 5), (6, 178), (7, 179), (8, 180), (9, 181), (10, 182)],
      size := 11, bytes := 48,
      zero :=
        [AV.int IntKind.u64 (Int.ofNat 0),
          AV.int IntKind.u64 (Int.ofNat 0),
          AV.int IntKind.u32 (Int.ofNat 0),
          AV.int IntKind.u8 (Int.ofNat 0),
          AV.int IntKind.u8 (Int.ofNat 0),
          AV.int IntKind.u8 (Int.ofNat 0),
          AV.int IntKind.u8 (Int.ofNat 0), AV.nilf,
          AV.nilp, AV.int IntKind.i32 (Int.ofNat 0),
          AV.int IntKind.i32 (Int.ofNat 0)],
      t := none, eq := false }),
  (184,
    {
      d :=
        TD.struct
          [(0, 12), (1, 12), (2, 151), (3, 177), (4, 5), (5, 5), (6, 178), (7, 179), (8, 180), (9, 181), (10, 182)],
      size := 11, bytes := 48,
      zero :=
        [AV.int IntKind.u64 (Int.ofNat 0),
          AV.int IntKind.u64 (Int.ofNat 0),
          AV.int IntKind.u32 (Int.ofNat 0),
          AV.int IntKind.u8 (Int.ofNat 0),
          AV.int IntKind.u8 (Int.ofNat 0),
          AV.int IntKind.u8 (Int.ofNat 0),
          AV.int IntKind.u8 (Int.ofNat 0), AV.nilf,
          AV.nilp, AV.int IntKind.i32 (Int.ofNat 0),
          AV.int IntKind.i32 (Int.ofNat 0)],
      t := none, eq := false }),
  (185,
    { d := TD.scalar, size := 1, bytes := 8,
      zero := [AV.nilf], t := none, eq := false }),
  (186,
    { d := TD.unk, size := 0, bytes := 0, zero := [], t := none,
      eq := false })]
theorem tab_eq : tab = tabOf Try.prog (List.range 187) := by kernel_rfl
theorem tab_ok : TabOk Try.prog tab := by rw [tab_eq]; exact tabOf_ok _ _
theorem mixed : Try.prog.follows .mixedOrders = true := by kernel_rfl
end Go.Proofs.Ytkpjcmiijlpcaaa.W

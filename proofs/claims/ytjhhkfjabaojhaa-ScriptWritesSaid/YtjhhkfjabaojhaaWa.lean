/- The table of the program's types, and that it is the program's. -/
import Derived.Test.YtjhhkfjabaojhaaProg
import Derived.Test.YtjhhkfjabaojhaaAwY
set_option linter.unusedVariables false
set_option linter.unusedSimpArgs false
namespace Go.Proofs.Ytjhhkfjabaojhaa.W
open Go Go.Proofs Go.Proofs.Ytjhhkfjabaojhaa.Aw
def tab : Tab := [(0,
    { d := TD.unk, size := 0, bytes := 0, zero := [], t := none,
      eq := false }),
  (1,
    { d := TD.scalar, size := 1, bytes := 8,
      zero := [AV.nilf], t := none, eq := false }),
  (2,
    { d := TD.scalar, size := 1, bytes := 8,
      zero := [AV.int IntKind.i64 (Int.ofNat 0)],
      t := some (Ty.int IntKind.i64), eq := true }),
  (3,
    { d := TD.scalar, size := 1, bytes := 8,
      zero := [AV.int IntKind.i64 (Int.ofNat 0)],
      t := some (Ty.int IntKind.i64), eq := true }),
  (4,
    { d := TD.scalar, size := 1, bytes := 1,
      zero := [AV.bool false],
      t := some Ty.bool, eq := true }),
  (5,
    { d := TD.scalar, size := 1, bytes := 1,
      zero := [AV.int IntKind.u8 (Int.ofNat 0)],
      t := some (Ty.int IntKind.u8), eq := true }),
  (6,
    { d := TD.scalar, size := 1, bytes := 1,
      zero := [AV.int IntKind.u8 (Int.ofNat 0)],
      t := some (Ty.int IntKind.u8), eq := true }),
  (7,
    { d := TD.struct [(0, 2), (1, 3), (2, 4), (3, 6)], size := 4, bytes := 24,
      zero :=
        [AV.int IntKind.i64 (Int.ofNat 0),
          AV.int IntKind.i64 (Int.ofNat 0),
          AV.bool false,
          AV.int IntKind.u8 (Int.ofNat 0)],
      t :=
        some
          ((Ty.int IntKind.i64).pair
            ((Ty.int IntKind.i64).pair
              (Ty.bool.pair (Ty.int IntKind.u8)))),
      eq := true }),
  (8,
    { d := TD.struct [(0, 2), (1, 3), (2, 4), (3, 6)], size := 4, bytes := 24,
      zero :=
        [AV.int IntKind.i64 (Int.ofNat 0),
          AV.int IntKind.i64 (Int.ofNat 0),
          AV.bool false,
          AV.int IntKind.u8 (Int.ofNat 0)],
      t :=
        some
          ((Ty.int IntKind.i64).pair
            ((Ty.int IntKind.i64).pair
              (Ty.bool.pair (Ty.int IntKind.u8)))),
      eq := false }),
  (9,
    { d := TD.scalar, size := 1, bytes := 16,
      zero := [AV.str { data := { toList := [] } }],
      t := some Ty.str, eq := true }),
  (10,
    { d := TD.scalar, size := 1, bytes := 16,
      zero := [AV.str { data := { toList := [] } }],
      t := some Ty.str, eq := true }),
  (11,
    { d := TD.scalar, size := 1, bytes := 16,
      zero := [AV.str { data := { toList := [] } }],
      t := some Ty.str, eq := true }),
  (12,
    { d := TD.scalar, size := 1, bytes := 8,
      zero := [AV.int IntKind.u64 (Int.ofNat 0)],
      t := some (Ty.int IntKind.u64), eq := true }),
  (13,
    { d := TD.struct [(0, 9), (1, 12)], size := 2, bytes := 24,
      zero :=
        [AV.str { data := { toList := [] } },
          AV.int IntKind.u64 (Int.ofNat 0)],
      t :=
        some (Ty.str.pair (Ty.int IntKind.u64)),
      eq := false }),
  (14,
    { d := TD.struct [(0, 9), (1, 12)], size := 2, bytes := 24,
      zero :=
        [AV.str { data := { toList := [] } },
          AV.int IntKind.u64 (Int.ofNat 0)],
      t :=
        some (Ty.str.pair (Ty.int IntKind.u64)),
      eq := false }),
  (15,
    { d := TD.scalar, size := 1, bytes := 8,
      zero := [AV.nilp], t := none, eq := false }),
  (16,
    { d := TD.scalar, size := 1, bytes := 8,
      zero := [AV.nilp], t := none, eq := false }),
  (17,
    { d := TD.scalar, size := 1, bytes := 8,
      zero := [AV.nilp], t := none, eq := false }),
  (18,
    { d := TD.struct [(0, 17)], size := 1, bytes := 8,
      zero := [AV.nilp], t := none, eq := false }),
  (19,
    { d := TD.struct [(0, 17)], size := 1, bytes := 8,
      zero := [AV.nilp], t := none, eq := false }),
  (20,
    { d := TD.scalar, size := 1, bytes := 16,
      zero := [AV.nili], t := none, eq := false }),
  (21,
    { d := TD.scalar, size := 1, bytes := 4,
      zero := [AV.int IntKind.i32 (Int.ofNat 0)],
      t := some (Ty.int IntKind.i32), eq := true }),
  (22,
    { d := TD.slice 3, size := 1, bytes := 24,
      zero := [AV.nils 3 (Ty.int IntKind.i64)],
      t := some (Ty.list 3 (Ty.int IntKind.i64)),
      eq := false }),
  (23,
    { d := TD.scalar, size := 1, bytes := 8,
      zero := [AV.nilf], t := none, eq := false }),
  (24,
    { d := TD.scalar, size := 1, bytes := 8,
      zero := [AV.nilf], t := none, eq := false }),
  (25,
    { d := TD.struct [(0, 3), (1, 3)], size := 2, bytes := 16,
      zero :=
        [AV.int IntKind.i64 (Int.ofNat 0),
          AV.int IntKind.i64 (Int.ofNat 0)],
      t :=
        some
          ((Ty.int IntKind.i64).pair
            (Ty.int IntKind.i64)),
      eq := true }),
  (26,
    { d := TD.struct [(0, 3), (1, 3)], size := 2, bytes := 16,
      zero :=
        [AV.int IntKind.i64 (Int.ofNat 0),
          AV.int IntKind.i64 (Int.ofNat 0)],
      t :=
        some
          ((Ty.int IntKind.i64).pair
            (Ty.int IntKind.i64)),
      eq := true }),
  (27,
    { d := TD.struct [(0, 3), (1, 26), (3, 4), (4, 4)], size := 5, bytes := 32,
      zero :=
        [AV.int IntKind.i64 (Int.ofNat 0),
          AV.int IntKind.i64 (Int.ofNat 0),
          AV.int IntKind.i64 (Int.ofNat 0),
          AV.bool false, AV.bool false],
      t :=
        some
          ((Ty.int IntKind.i64).pair
            (((Ty.int IntKind.i64).pair
                  (Ty.int IntKind.i64)).pair
              (Ty.bool.pair Ty.bool))),
      eq := true }),
  (28,
    { d := TD.struct [(0, 3), (1, 26), (3, 4), (4, 4)], size := 5, bytes := 32,
      zero :=
        [AV.int IntKind.i64 (Int.ofNat 0),
          AV.int IntKind.i64 (Int.ofNat 0),
          AV.int IntKind.i64 (Int.ofNat 0),
          AV.bool false, AV.bool false],
      t :=
        some
          ((Ty.int IntKind.i64).pair
            (((Ty.int IntKind.i64).pair
                  (Ty.int IntKind.i64)).pair
              (Ty.bool.pair Ty.bool))),
      eq := true }),
  (29,
    { d := TD.scalar, size := 1, bytes := 8,
      zero := [AV.nilf], t := none, eq := false }),
  (30,
    { d := TD.scalar, size := 1, bytes := 8,
      zero := [AV.nilf], t := none, eq := false }),
  (31,
    { d := TD.scalar, size := 1, bytes := 8,
      zero := [AV.nilf], t := none, eq := false }),
  (32,
    { d := TD.scalar, size := 1, bytes := 8,
      zero := [AV.nilf], t := none, eq := false }),
  (33,
    { d := TD.scalar, size := 1, bytes := 8,
      zero := [AV.nilf], t := none, eq := false }),
  (34,
    { d := TD.scalar, size := 1, bytes := 8,
      zero := [AV.nilf], t := none, eq := false }),
  (35,
    { d := TD.slice 45, size := 1, bytes := 24,
      zero :=
        [AV.nils 45
            ((Ty.int IntKind.i64).pair
              ((Ty.int IntKind.i64).pair
                ((Ty.int IntKind.i64).pair
                  (Ty.int IntKind.i64))))],
      t :=
        some
          (Ty.list 45
            ((Ty.int IntKind.i64).pair
              ((Ty.int IntKind.i64).pair
                ((Ty.int IntKind.i64).pair
                  (Ty.int IntKind.i64))))),
      eq := false }),
  (36,
    { d := TD.scalar, size := 1, bytes := 2,
      zero := [AV.int IntKind.i16 (Int.ofNat 0)],
      t := some (Ty.int IntKind.i16), eq := true }),
  (37,
    { d := TD.slice 47, size := 1, bytes := 24,
      zero :=
        [AV.nils 47
            ((Ty.int IntKind.i64).pair
              ((Ty.int IntKind.i64).pair
                ((Ty.int IntKind.i64).pair
                  (Ty.int IntKind.i64))))],
      t :=
        some
          (Ty.list 47
            ((Ty.int IntKind.i64).pair
              ((Ty.int IntKind.i64).pair
                ((Ty.int IntKind.i64).pair
                  (Ty.int IntKind.i64))))),
      eq := false }),
  (38,
    { d := TD.slice 106, size := 1, bytes := 24,
      zero :=
        [AV.nils 106
            ((Ty.int IntKind.i64).pair
              (((Ty.int IntKind.i64).pair
                    ((Ty.int IntKind.i64).pair
                      ((Ty.int IntKind.i64).pair
                        (Ty.int IntKind.i64)))).pair
                ((Ty.int IntKind.i64).pair
                  (Ty.int IntKind.i64))))],
      t :=
        some
          (Ty.list 106
            ((Ty.int IntKind.i64).pair
              (((Ty.int IntKind.i64).pair
                    ((Ty.int IntKind.i64).pair
                      ((Ty.int IntKind.i64).pair
                        (Ty.int IntKind.i64)))).pair
                ((Ty.int IntKind.i64).pair
                  (Ty.int IntKind.i64))))),
      eq := false }),
  (39,
    { d := TD.struct [(0, 37), (1, 38)], size := 2, bytes := 48,
      zero :=
        [AV.nils 47
            ((Ty.int IntKind.i64).pair
              ((Ty.int IntKind.i64).pair
                ((Ty.int IntKind.i64).pair
                  (Ty.int IntKind.i64)))),
          AV.nils 106
            ((Ty.int IntKind.i64).pair
              (((Ty.int IntKind.i64).pair
                    ((Ty.int IntKind.i64).pair
                      ((Ty.int IntKind.i64).pair
                        (Ty.int IntKind.i64)))).pair
                ((Ty.int IntKind.i64).pair
                  (Ty.int IntKind.i64))))],
      t :=
        some
          ((Ty.list 47
                ((Ty.int IntKind.i64).pair
                  ((Ty.int IntKind.i64).pair
                    ((Ty.int IntKind.i64).pair
                      (Ty.int IntKind.i64))))).pair
            (Ty.list 106
              ((Ty.int IntKind.i64).pair
                (((Ty.int IntKind.i64).pair
                      ((Ty.int IntKind.i64).pair
                        ((Ty.int IntKind.i64).pair
                          (Ty.int IntKind.i64)))).pair
                  ((Ty.int IntKind.i64).pair
                    (Ty.int IntKind.i64)))))),
      eq := false }),
  (40,
    { d := TD.struct [(0, 37), (1, 38)], size := 2, bytes := 48,
      zero :=
        [AV.nils 47
            ((Ty.int IntKind.i64).pair
              ((Ty.int IntKind.i64).pair
                ((Ty.int IntKind.i64).pair
                  (Ty.int IntKind.i64)))),
          AV.nils 106
            ((Ty.int IntKind.i64).pair
              (((Ty.int IntKind.i64).pair
                    ((Ty.int IntKind.i64).pair
                      ((Ty.int IntKind.i64).pair
                        (Ty.int IntKind.i64)))).pair
                ((Ty.int IntKind.i64).pair
                  (Ty.int IntKind.i64))))],
      t :=
        some
          ((Ty.list 47
                ((Ty.int IntKind.i64).pair
                  ((Ty.int IntKind.i64).pair
                    ((Ty.int IntKind.i64).pair
                      (Ty.int IntKind.i64))))).pair
            (Ty.list 106
              ((Ty.int IntKind.i64).pair
                (((Ty.int IntKind.i64).pair
                      ((Ty.int IntKind.i64).pair
                        ((Ty.int IntKind.i64).pair
                          (Ty.int IntKind.i64)))).pair
                  ((Ty.int IntKind.i64).pair
                    (Ty.int IntKind.i64)))))),
      eq := false }),
  (41,
    { d := TD.unk, size := 0, bytes := 0, zero := [], t := none,
      eq := false }),
  (42,
    { d := TD.scalar, size := 1, bytes := 8,
      zero := [AV.nilf], t := none, eq := false }),
  (43,
    { d := TD.scalar, size := 1, bytes := 8,
      zero := [AV.nilf], t := none, eq := false }),
  (44,
    { d := TD.array 4 3, size := 4, bytes := 32,
      zero :=
        [AV.int IntKind.i64 (Int.ofNat 0),
          AV.int IntKind.i64 (Int.ofNat 0),
          AV.int IntKind.i64 (Int.ofNat 0),
          AV.int IntKind.i64 (Int.ofNat 0)],
      t :=
        some
          ((Ty.int IntKind.i64).pair
            ((Ty.int IntKind.i64).pair
              ((Ty.int IntKind.i64).pair
                (Ty.int IntKind.i64)))),
      eq := true }),
  (45,
    { d := TD.array 4 3, size := 4, bytes := 32,
      zero :=
        [AV.int IntKind.i64 (Int.ofNat 0),
          AV.int IntKind.i64 (Int.ofNat 0),
          AV.int IntKind.i64 (Int.ofNat 0),
          AV.int IntKind.i64 (Int.ofNat 0)],
      t :=
        some
          ((Ty.int IntKind.i64).pair
            ((Ty.int IntKind.i64).pair
              ((Ty.int IntKind.i64).pair
                (Ty.int IntKind.i64)))),
      eq := true }),
  (46,
    { d := TD.struct [(0, 3), (1, 3), (2, 3), (3, 3)], size := 4, bytes := 32,
      zero :=
        [AV.int IntKind.i64 (Int.ofNat 0),
          AV.int IntKind.i64 (Int.ofNat 0),
          AV.int IntKind.i64 (Int.ofNat 0),
          AV.int IntKind.i64 (Int.ofNat 0)],
      t :=
        some
          ((Ty.int IntKind.i64).pair
            ((Ty.int IntKind.i64).pair
              ((Ty.int IntKind.i64).pair
                (Ty.int IntKind.i64)))),
      eq := true }),
  (47,
    { d := TD.struct [(0, 3), (1, 3), (2, 3), (3, 3)], size := 4, bytes := 32,
      zero :=
        [AV.int IntKind.i64 (Int.ofNat 0),
          AV.int IntKind.i64 (Int.ofNat 0),
          AV.int IntKind.i64 (Int.ofNat 0),
          AV.int IntKind.i64 (Int.ofNat 0)],
      t :=
        some
          ((Ty.int IntKind.i64).pair
            ((Ty.int IntKind.i64).pair
              ((Ty.int IntKind.i64).pair
                (Ty.int IntKind.i64)))),
      eq := true }),
  (48,
    { d := TD.scalar, size := 1, bytes := 8,
      zero := [AV.nilf], t := none, eq := false }),
  (49,
    { d := TD.scalar, size := 1, bytes := 8,
      zero := [AV.nilf], t := none, eq := false }),
  (50,
    { d := TD.scalar, size := 1, bytes := 8,
      zero := [AV.nilf], t := none, eq := false }),
  (51,
    { d := TD.scalar, size := 1, bytes := 8,
      zero := [AV.nilf], t := none, eq := false }),
  (52,
    { d := TD.slice 56, size := 1, bytes := 24,
      zero :=
        [AV.nils 56
            ((Ty.int IntKind.i64).pair
              ((Ty.int IntKind.i64).pair
                (Ty.int IntKind.i64)))],
      t :=
        some
          (Ty.list 56
            ((Ty.int IntKind.i64).pair
              ((Ty.int IntKind.i64).pair
                (Ty.int IntKind.i64)))),
      eq := false }),
  (53,
    { d := TD.struct [(0, 3), (1, 22), (2, 4), (3, 4)], size := 4, bytes := 40,
      zero :=
        [AV.int IntKind.i64 (Int.ofNat 0),
          AV.nils 3 (Ty.int IntKind.i64),
          AV.bool false, AV.bool false],
      t :=
        some
          ((Ty.int IntKind.i64).pair
            ((Ty.list 3 (Ty.int IntKind.i64)).pair
              (Ty.bool.pair Ty.bool))),
      eq := false }),
  (54,
    { d := TD.struct [(0, 3), (1, 22), (2, 4), (3, 4)], size := 4, bytes := 40,
      zero :=
        [AV.int IntKind.i64 (Int.ofNat 0),
          AV.nils 3 (Ty.int IntKind.i64),
          AV.bool false, AV.bool false],
      t :=
        some
          ((Ty.int IntKind.i64).pair
            ((Ty.list 3 (Ty.int IntKind.i64)).pair
              (Ty.bool.pair Ty.bool))),
      eq := false }),
  (55,
    { d := TD.struct [(0, 3), (1, 3), (2, 3)], size := 3, bytes := 24,
      zero :=
        [AV.int IntKind.i64 (Int.ofNat 0),
          AV.int IntKind.i64 (Int.ofNat 0),
          AV.int IntKind.i64 (Int.ofNat 0)],
      t :=
        some
          ((Ty.int IntKind.i64).pair
            ((Ty.int IntKind.i64).pair
              (Ty.int IntKind.i64))),
      eq := true }),
  (56,
    { d := TD.struct [(0, 3), (1, 3), (2, 3)], size := 3, bytes := 24,
      zero :=
        [AV.int IntKind.i64 (Int.ofNat 0),
          AV.int IntKind.i64 (Int.ofNat 0),
          AV.int IntKind.i64 (Int.ofNat 0)],
      t :=
        some
          ((Ty.int IntKind.i64).pair
            ((Ty.int IntKind.i64).pair
              (Ty.int IntKind.i64))),
      eq := true }),
  (57,
    { d := TD.scalar, size := 1, bytes := 8,
      zero := [AV.nilf], t := none, eq := false }),
  (58,
    { d := TD.scalar, size := 1, bytes := 8,
      zero := [AV.nilf], t := none, eq := false }),
  (59,
    { d := TD.scalar, size := 1, bytes := 8,
      zero := [AV.nilf], t := none, eq := false }),
  (60,
    { d := TD.scalar, size := 1, bytes := 8,
      zero := [AV.nilf], t := none, eq := false }),
  (61,
    { d := TD.scalar, size := 1, bytes := 8,
      zero := [AV.nilf], t := none, eq := false }),
  (62,
    { d := TD.slice 111, size := 1, bytes := 24,
      zero :=
        [AV.nils 111
            ((Ty.int IntKind.i64).pair
              (((Ty.int IntKind.i64).pair
                    ((Ty.int IntKind.i64).pair
                      ((Ty.int IntKind.i64).pair
                        (Ty.int IntKind.i64)))).pair
                ((Ty.int IntKind.i64).pair
                  (Ty.int IntKind.i64))))],
      t :=
        some
          (Ty.list 111
            ((Ty.int IntKind.i64).pair
              (((Ty.int IntKind.i64).pair
                    ((Ty.int IntKind.i64).pair
                      ((Ty.int IntKind.i64).pair
                        (Ty.int IntKind.i64)))).pair
                ((Ty.int IntKind.i64).pair
                  (Ty.int IntKind.i64))))),
      eq := false }),
  (63,
    { d := TD.struct [(0, 35), (1, 62)], size := 2, bytes := 48,
      zero :=
        [AV.nils 45
            ((Ty.int IntKind.i64).pair
              ((Ty.int IntKind.i64).pair
                ((Ty.int IntKind.i64).pair
                  (Ty.int IntKind.i64)))),
          AV.nils 111
            ((Ty.int IntKind.i64).pair
              (((Ty.int IntKind.i64).pair
                    ((Ty.int IntKind.i64).pair
                      ((Ty.int IntKind.i64).pair
                        (Ty.int IntKind.i64)))).pair
                ((Ty.int IntKind.i64).pair
                  (Ty.int IntKind.i64))))],
      t :=
        some
          ((Ty.list 45
                ((Ty.int IntKind.i64).pair
                  ((Ty.int IntKind.i64).pair
                    ((Ty.int IntKind.i64).pair
                      (Ty.int IntKind.i64))))).pair
            (Ty.list 111
              ((Ty.int IntKind.i64).pair
                (((Ty.int IntKind.i64).pair
                      ((Ty.int IntKind.i64).pair
                        ((Ty.int IntKind.i64).pair
                          (Ty.int IntKind.i64)))).pair
                  ((Ty.int IntKind.i64).pair
                    (Ty.int IntKind.i64)))))),
      eq := false }),
  (64,
    { d := TD.struct [(0, 35), (1, 62)], size := 2, bytes := 48,
      zero :=
        [AV.nils 45
            ((Ty.int IntKind.i64).pair
              ((Ty.int IntKind.i64).pair
                ((Ty.int IntKind.i64).pair
                  (Ty.int IntKind.i64)))),
          AV.nils 111
            ((Ty.int IntKind.i64).pair
              (((Ty.int IntKind.i64).pair
                    ((Ty.int IntKind.i64).pair
                      ((Ty.int IntKind.i64).pair
                        (Ty.int IntKind.i64)))).pair
                ((Ty.int IntKind.i64).pair
                  (Ty.int IntKind.i64))))],
      t :=
        some
          ((Ty.list 45
                ((Ty.int IntKind.i64).pair
                  ((Ty.int IntKind.i64).pair
                    ((Ty.int IntKind.i64).pair
                      (Ty.int IntKind.i64))))).pair
            (Ty.list 111
              ((Ty.int IntKind.i64).pair
                (((Ty.int IntKind.i64).pair
                      ((Ty.int IntKind.i64).pair
                        ((Ty.int IntKind.i64).pair
                          (Ty.int IntKind.i64)))).pair
                  ((Ty.int IntKind.i64).pair
                    (Ty.int IntKind.i64)))))),
      eq := false }),
  (65,
    { d := TD.struct [(0, 3), (1, 3), (2, 3), (3, 3), (4, 3), (5, 3), (6, 44), (10, 44)],
      size := 14, bytes := 112,
      zero :=
        [AV.int IntKind.i64 (Int.ofNat 0),
          AV.int IntKind.i64 (Int.ofNat 0),
          AV.int IntKind.i64 (Int.ofNat 0),
          AV.int IntKind.i64 (Int.ofNat 0),
          AV.int IntKind.i64 (Int.ofNat 0),
          AV.int IntKind.i64 (Int.ofNat 0),
          AV.int IntKind.i64 (Int.ofNat 0),
          AV.int IntKind.i64 (Int.ofNat 0),
          AV.int IntKind.i64 (Int.ofNat 0),
          AV.int IntKind.i64 (Int.ofNat 0),
          AV.int IntKind.i64 (Int.ofNat 0),
          AV.int IntKind.i64 (Int.ofNat 0),
          AV.int IntKind.i64 (Int.ofNat 0),
          AV.int IntKind.i64 (Int.ofNat 0)],
      t :=
        some
          ((Ty.int IntKind.i64).pair
            ((Ty.int IntKind.i64).pair
              ((Ty.int IntKind.i64).pair
                ((Ty.int IntKind.i64).pair
                  ((Ty.int IntKind.i64).pair
                    ((Ty.int IntKind.i64).pair
                      (((Ty.int IntKind.i64).pair
                            ((Ty.int IntKind.i64).pair
                              ((Ty.int IntKind.i64).pair
                                (Ty.int IntKind.i64)))).pair
                        ((Ty.int IntKind.i64).pair
                          ((Ty.int IntKind.i64).pair
                            ((Ty.int IntKind.i64).pair
                              (Ty.int IntKind.i64))))))))))),
      eq := true }),
  (66,
    { d := TD.struct [(0, 3), (1, 3), (2, 3), (3, 3), (4, 3), (5, 3), (6, 44), (10, 44)],
      size := 14, bytes := 112,
      zero :=
        [AV.int IntKind.i64 (Int.ofNat 0),
          AV.int IntKind.i64 (Int.ofNat 0),
          AV.int IntKind.i64 (Int.ofNat 0),
          AV.int IntKind.i64 (Int.ofNat 0),
          AV.int IntKind.i64 (Int.ofNat 0),
          AV.int IntKind.i64 (Int.ofNat 0),
          AV.int IntKind.i64 (Int.ofNat 0),
          AV.int IntKind.i64 (Int.ofNat 0),
          AV.int IntKind.i64 (Int.ofNat 0),
          AV.int IntKind.i64 (Int.ofNat 0),
          AV.int IntKind.i64 (Int.ofNat 0),
          AV.int IntKind.i64 (Int.ofNat 0),
          AV.int IntKind.i64 (Int.ofNat 0),
          AV.int IntKind.i64 (Int.ofNat 0)],
      t :=
        some
          ((Ty.int IntKind.i64).pair
            ((Ty.int IntKind.i64).pair
              ((Ty.int IntKind.i64).pair
                ((Ty.int IntKind.i64).pair
                  ((Ty.int IntKind.i64).pair
                    ((Ty.int IntKind.i64).pair
                      (((Ty.int IntKind.i64).pair
                            ((Ty.int IntKind.i64).pair
                              ((Ty.int IntKind.i64).pair
                                (Ty.int IntKind.i64)))).pair
                        ((Ty.int IntKind.i64).pair
                          ((Ty.int IntKind.i64).pair
                            ((Ty.int IntKind.i64).pair
                              (Ty.int IntKind.i64))))))))))),
      eq := true }),
  (67,
    { d := TD.scalar, size := 1, bytes := 8,
      zero := [AV.nilf], t := none, eq := false }),
  (68,
    { d := TD.scalar, size := 1, bytes := 8,
      zero := [AV.nilf], t := none, eq := false }),
  (69,
    { d := TD.scalar, size := 1, bytes := 8,
      zero := [AV.nilf], t := none, eq := false }),
  (70,
    { d := TD.scalar, size := 1, bytes := 8,
      zero := [AV.nilf], t := none, eq := false }),
  (71,
    { d := TD.scalar, size := 1, bytes := 8,
      zero := [AV.nilf], t := none, eq := false }),
  (72,
    { d := TD.struct [(0, 3), (1, 3), (2, 3), (3, 3), (4, 3), (5, 3), (6, 44), (10, 44)],
      size := 14, bytes := 112,
      zero :=
        [AV.int IntKind.i64 (Int.ofNat 0),
          AV.int IntKind.i64 (Int.ofNat 0),
          AV.int IntKind.i64 (Int.ofNat 0),
          AV.int IntKind.i64 (Int.ofNat 0),
          AV.int IntKind.i64 (Int.ofNat 0),
          AV.int IntKind.i64 (Int.ofNat 0),
          AV.int IntKind.i64 (Int.ofNat 0),
          AV.int IntKind.i64 (Int.ofNat 0),
          AV.int IntKind.i64 (Int.ofNat 0),
          AV.int IntKind.i64 (Int.ofNat 0),
          AV.int IntKind.i64 (Int.ofNat 0),
          AV.int IntKind.i64 (Int.ofNat 0),
          AV.int IntKind.i64 (Int.ofNat 0),
          AV.int IntKind.i64 (Int.ofNat 0)],
      t :=
        some
          ((Ty.int IntKind.i64).pair
            ((Ty.int IntKind.i64).pair
              ((Ty.int IntKind.i64).pair
                ((Ty.int IntKind.i64).pair
                  ((Ty.int IntKind.i64).pair
                    ((Ty.int IntKind.i64).pair
                      (((Ty.int IntKind.i64).pair
                            ((Ty.int IntKind.i64).pair
                              ((Ty.int IntKind.i64).pair
                                (Ty.int IntKind.i64)))).pair
                        ((Ty.int IntKind.i64).pair
                          ((Ty.int IntKind.i64).pair
                            ((Ty.int IntKind.i64).pair
                              (Ty.int IntKind.i64))))))))))),
      eq := true }),
  (73,
    { d := TD.scalar, size := 1, bytes := 8,
      zero := [AV.nilf], t := none, eq := false }),
  (74,
    { d := TD.scalar, size := 1, bytes := 8,
      zero := [AV.nilf], t := none, eq := false }),
  (75,
    { d := TD.scalar, size := 1, bytes := 8,
      zero := [AV.nilf], t := none, eq := false }),
  (76,
    { d := TD.scalar, size := 1, bytes := 8,
      zero := [AV.nilf], t := none, eq := false }),
  (77,
    { d := TD.scalar, size := 1, bytes := 8,
      zero := [AV.nilf], t := none, eq := false }),
  (78,
    { d := TD.slice 66, size := 1, bytes := 24,
      zero :=
        [AV.nils 66
            ((Ty.int IntKind.i64).pair
              ((Ty.int IntKind.i64).pair
                ((Ty.int IntKind.i64).pair
                  ((Ty.int IntKind.i64).pair
                    ((Ty.int IntKind.i64).pair
                      ((Ty.int IntKind.i64).pair
                        (((Ty.int IntKind.i64).pair
                              ((Ty.int IntKind.i64).pair
                                ((Ty.int IntKind.i64).pair
                                  (Ty.int IntKind.i64)))).pair
                          ((Ty.int IntKind.i64).pair
                            ((Ty.int IntKind.i64).pair
                              ((Ty.int IntKind.i64).pair
                                (Ty.int IntKind.i64)))))))))))],
      t :=
        some
          (Ty.list 66
            ((Ty.int IntKind.i64).pair
              ((Ty.int IntKind.i64).pair
                ((Ty.int IntKind.i64).pair
                  ((Ty.int IntKind.i64).pair
                    ((Ty.int IntKind.i64).pair
                      ((Ty.int IntKind.i64).pair
                        (((Ty.int IntKind.i64).pair
                              ((Ty.int IntKind.i64).pair
                                ((Ty.int IntKind.i64).pair
                                  (Ty.int IntKind.i64)))).pair
                          ((Ty.int IntKind.i64).pair
                            ((Ty.int IntKind.i64).pair
                              ((Ty.int IntKind.i64).pair
                                (Ty.int IntKind.i64)))))))))))),
      eq := false }),
  (79,
    { d := TD.scalar, size := 1, bytes := 8,
      zero := [AV.nilf], t := none, eq := false }),
  (80,
    { d := TD.slice 72, size := 1, bytes := 24,
      zero :=
        [AV.nils 72
            ((Ty.int IntKind.i64).pair
              ((Ty.int IntKind.i64).pair
                ((Ty.int IntKind.i64).pair
                  ((Ty.int IntKind.i64).pair
                    ((Ty.int IntKind.i64).pair
                      ((Ty.int IntKind.i64).pair
                        (((Ty.int IntKind.i64).pair
                              ((Ty.int IntKind.i64).pair
                                ((Ty.int IntKind.i64).pair
                                  (Ty.int IntKind.i64)))).pair
                          ((Ty.int IntKind.i64).pair
                            ((Ty.int IntKind.i64).pair
                              ((Ty.int IntKind.i64).pair
                                (Ty.int IntKind.i64)))))))))))],
      t :=
        some
          (Ty.list 72
            ((Ty.int IntKind.i64).pair
              ((Ty.int IntKind.i64).pair
                ((Ty.int IntKind.i64).pair
                  ((Ty.int IntKind.i64).pair
                    ((Ty.int IntKind.i64).pair
                      ((Ty.int IntKind.i64).pair
                        (((Ty.int IntKind.i64).pair
                              ((Ty.int IntKind.i64).pair
                                ((Ty.int IntKind.i64).pair
                                  (Ty.int IntKind.i64)))).pair
                          ((Ty.int IntKind.i64).pair
                            ((Ty.int IntKind.i64).pair
                              ((Ty.int IntKind.i64).pair
                                (Ty.int IntKind.i64)))))))))))),
      eq := false }),
  (81,
    { d := TD.scalar, size := 1, bytes := 8,
      zero := [AV.nilf], t := none, eq := false }),
  (82,
    { d := TD.scalar, size := 1, bytes := 8,
      zero := [AV.nilf], t := none, eq := false }),
  (83,
    { d := TD.scalar, size := 1, bytes := 8,
      zero := [AV.int IntKind.i64 (Int.ofNat 0)],
      t := some (Ty.int IntKind.i64), eq := true }),
  (84,
    { d := TD.unk, size := 0, bytes := 0, zero := [], t := none,
      eq := false }),
  (85,
    { d := TD.scalar, size := 1, bytes := 8,
      zero := [AV.nilf], t := none, eq := false }),
  (86,
    { d := TD.scalar, size := 1, bytes := 8,
      zero := [AV.nilf], t := none, eq := false }),
  (87,
    { d := TD.unk, size := 0, bytes := 0, zero := [], t := none,
      eq := false }),
  (88,
    { d := TD.scalar, size := 1, bytes := 8,
      zero := [AV.nilf], t := none, eq := false }),
  (89,
    { d := TD.scalar, size := 1, bytes := 8,
      zero := [AV.nilf], t := none, eq := false }),
  (90,
    { d := TD.scalar, size := 1, bytes := 8,
      zero := [AV.nilf], t := none, eq := false }),
  (91,
    { d := TD.unk, size := 0, bytes := 0, zero := [], t := none,
      eq := false }),
  (92,
    { d := TD.scalar, size := 1, bytes := 8,
      zero := [AV.nilf], t := none, eq := false }),
  (93,
    { d := TD.scalar, size := 1, bytes := 8,
      zero := [AV.nilf], t := none, eq := false }),
  (94,
    { d := TD.slice 101, size := 1, bytes := 24,
      zero :=
        [AV.nils 101
            ((Ty.int IntKind.i64).pair
              (((Ty.int IntKind.i64).pair
                    ((Ty.int IntKind.i64).pair
                      ((Ty.int IntKind.i64).pair
                        (Ty.int IntKind.i64)))).pair
                ((Ty.int IntKind.i64).pair
                  ((Ty.int IntKind.i64).pair
                    ((Ty.int IntKind.i64).pair
                      (Ty.int IntKind.i64))))))],
      t :=
        some
          (Ty.list 101
            ((Ty.int IntKind.i64).pair
              (((Ty.int IntKind.i64).pair
                    ((Ty.int IntKind.i64).pair
                      ((Ty.int IntKind.i64).pair
                        (Ty.int IntKind.i64)))).pair
                ((Ty.int IntKind.i64).pair
                  ((Ty.int IntKind.i64).pair
                    ((Ty.int IntKind.i64).pair
                      (Ty.int IntKind.i64))))))),
      eq := false }),
  (95,
    { d := TD.unk, size := 0, bytes := 0, zero := [], t := none,
      eq := false }),
  (96,
    { d := TD.scalar, size := 1, bytes := 8,
      zero := [AV.nilf], t := none, eq := false }),
  (97,
    { d := TD.unk, size := 0, bytes := 0, zero := [], t := none,
      eq := false }),
  (98,
    { d := TD.scalar, size := 1, bytes := 8,
      zero := [AV.nilf], t := none, eq := false }),
  (99,
    { d := TD.scalar, size := 1, bytes := 8,
      zero := [AV.nilf], t := none, eq := false }),
  (100,
    { d := TD.struct [(0, 3), (1, 47), (5, 47)], size := 9, bytes := 72,
      zero :=
        [AV.int IntKind.i64 (Int.ofNat 0),
          AV.int IntKind.i64 (Int.ofNat 0),
          AV.int IntKind.i64 (Int.ofNat 0),
          AV.int IntKind.i64 (Int.ofNat 0),
          AV.int IntKind.i64 (Int.ofNat 0),
          AV.int IntKind.i64 (Int.ofNat 0),
          AV.int IntKind.i64 (Int.ofNat 0),
          AV.int IntKind.i64 (Int.ofNat 0),
          AV.int IntKind.i64 (Int.ofNat 0)],
      t :=
        some
          ((Ty.int IntKind.i64).pair
            (((Ty.int IntKind.i64).pair
                  ((Ty.int IntKind.i64).pair
                    ((Ty.int IntKind.i64).pair
                      (Ty.int IntKind.i64)))).pair
              ((Ty.int IntKind.i64).pair
                ((Ty.int IntKind.i64).pair
                  ((Ty.int IntKind.i64).pair
                    (Ty.int IntKind.i64)))))),
      eq := true }),
  (101,
    { d := TD.struct [(0, 3), (1, 47), (5, 47)], size := 9, bytes := 72,
      zero :=
        [AV.int IntKind.i64 (Int.ofNat 0),
          AV.int IntKind.i64 (Int.ofNat 0),
          AV.int IntKind.i64 (Int.ofNat 0),
          AV.int IntKind.i64 (Int.ofNat 0),
          AV.int IntKind.i64 (Int.ofNat 0),
          AV.int IntKind.i64 (Int.ofNat 0),
          AV.int IntKind.i64 (Int.ofNat 0),
          AV.int IntKind.i64 (Int.ofNat 0),
          AV.int IntKind.i64 (Int.ofNat 0)],
      t :=
        some
          ((Ty.int IntKind.i64).pair
            (((Ty.int IntKind.i64).pair
                  ((Ty.int IntKind.i64).pair
                    ((Ty.int IntKind.i64).pair
                      (Ty.int IntKind.i64)))).pair
              ((Ty.int IntKind.i64).pair
                ((Ty.int IntKind.i64).pair
                  ((Ty.int IntKind.i64).pair
                    (Ty.int IntKind.i64)))))),
      eq := true }),
  (102,
    { d := TD.scalar, size := 1, bytes := 8,
      zero := [AV.nilf], t := none, eq := false }),
  (103,
    { d := TD.scalar, size := 1, bytes := 8,
      zero := [AV.nilf], t := none, eq := false }),
  (104,
    { d := TD.scalar, size := 1, bytes := 8,
      zero := [AV.nilf], t := none, eq := false }),
  (105,
    { d := TD.struct [(0, 3), (1, 47), (5, 3), (6, 3)], size := 7, bytes := 56,
      zero :=
        [AV.int IntKind.i64 (Int.ofNat 0),
          AV.int IntKind.i64 (Int.ofNat 0),
          AV.int IntKind.i64 (Int.ofNat 0),
          AV.int IntKind.i64 (Int.ofNat 0),
          AV.int IntKind.i64 (Int.ofNat 0),
          AV.int IntKind.i64 (Int.ofNat 0),
          AV.int IntKind.i64 (Int.ofNat 0)],
      t :=
        some
          ((Ty.int IntKind.i64).pair
            (((Ty.int IntKind.i64).pair
                  ((Ty.int IntKind.i64).pair
                    ((Ty.int IntKind.i64).pair
                      (Ty.int IntKind.i64)))).pair
              ((Ty.int IntKind.i64).pair
                (Ty.int IntKind.i64)))),
      eq := true }),
  (106,
    { d := TD.struct [(0, 3), (1, 47), (5, 3), (6, 3)], size := 7, bytes := 56,
      zero :=
        [AV.int IntKind.i64 (Int.ofNat 0),
          AV.int IntKind.i64 (Int.ofNat 0),
          AV.int IntKind.i64 (Int.ofNat 0),
          AV.int IntKind.i64 (Int.ofNat 0),
          AV.int IntKind.i64 (Int.ofNat 0),
          AV.int IntKind.i64 (Int.ofNat 0),
          AV.int IntKind.i64 (Int.ofNat 0)],
      t :=
        some
          ((Ty.int IntKind.i64).pair
            (((Ty.int IntKind.i64).pair
                  ((Ty.int IntKind.i64).pair
                    ((Ty.int IntKind.i64).pair
                      (Ty.int IntKind.i64)))).pair
              ((Ty.int IntKind.i64).pair
                (Ty.int IntKind.i64)))),
      eq := true }),
  (107,
    { d := TD.unk, size := 0, bytes := 0, zero := [], t := none,
      eq := false }),
  (108,
    { d := TD.scalar, size := 1, bytes := 8,
      zero := [AV.nilf], t := none, eq := false }),
  (109,
    { d := TD.scalar, size := 1, bytes := 8,
      zero := [AV.nilf], t := none, eq := false }),
  (110,
    { d := TD.struct [(0, 3), (1, 45), (5, 3), (6, 3)], size := 7, bytes := 56,
      zero :=
        [AV.int IntKind.i64 (Int.ofNat 0),
          AV.int IntKind.i64 (Int.ofNat 0),
          AV.int IntKind.i64 (Int.ofNat 0),
          AV.int IntKind.i64 (Int.ofNat 0),
          AV.int IntKind.i64 (Int.ofNat 0),
          AV.int IntKind.i64 (Int.ofNat 0),
          AV.int IntKind.i64 (Int.ofNat 0)],
      t :=
        some
          ((Ty.int IntKind.i64).pair
            (((Ty.int IntKind.i64).pair
                  ((Ty.int IntKind.i64).pair
                    ((Ty.int IntKind.i64).pair
                      (Ty.int IntKind.i64)))).pair
              ((Ty.int IntKind.i64).pair
                (Ty.int IntKind.i64)))),
      eq := true }),
  (111,
    { d := TD.struct [(0, 3), (1, 45), (5, 3), (6, 3)], size := 7, bytes := 56,
      zero :=
        [AV.int IntKind.i64 (Int.ofNat 0),
          AV.int IntKind.i64 (Int.ofNat 0),
          AV.int IntKind.i64 (Int.ofNat 0),
          AV.int IntKind.i64 (Int.ofNat 0),
          AV.int IntKind.i64 (Int.ofNat 0),
          AV.int IntKind.i64 (Int.ofNat 0),
          AV.int IntKind.i64 (Int.ofNat 0)],
      t :=
        some
          ((Ty.int IntKind.i64).pair
            (((Ty.int IntKind.i64).pair
                  ((Ty.int IntKind.i64).pair
                    ((Ty.int IntKind.i64).pair
                      (Ty.int IntKind.i64)))).pair
              ((Ty.int IntKind.i64).pair
                (Ty.int IntKind.i64)))),
      eq := true }),
  (112,
    { d := TD.scalar, size := 1, bytes := 8,
      zero := [AV.nilf], t := none, eq := false }),
  (113,
    { d := TD.scalar, size := 1, bytes := 8,
      zero := [AV.nilf], t := none, eq := false }),
  (114,
    { d := TD.scalar, size := 1, bytes := 8,
      zero := [AV.nilp], t := none, eq := false }),
  (115,
    { d := TD.scalar, size := 1, bytes := 8,
      zero := [AV.nilf], t := none, eq := false }),
  (116,
    { d := TD.scalar, size := 1, bytes := 8,
      zero := [AV.nilf], t := none, eq := false }),
  (117,
    { d := TD.scalar, size := 1, bytes := 8,
      zero := [AV.nilp], t := none, eq := false }),
  (118,
    { d := TD.slice 117, size := 1, bytes := 24,
      zero := [AV.nil0], t := none, eq := false }),
  (119,
    { d := TD.scalar, size := 1, bytes := 8,
      zero := [AV.nilp], t := none, eq := false }),
  (120,
    { d := TD.slice 119, size := 1, bytes := 24,
      zero := [AV.nil0], t := none, eq := false }),
  (121,
    { d := TD.scalar, size := 1, bytes := 8,
      zero := [AV.nilf], t := none, eq := false }),
  (122,
    { d := TD.scalar, size := 1, bytes := 8,
      zero := [AV.nilf], t := none, eq := false }),
  (123,
    { d := TD.scalar, size := 1, bytes := 8,
      zero := [AV.nilf], t := none, eq := false }),
  (124,
    { d := TD.scalar, size := 1, bytes := 8,
      zero := [AV.nilf], t := none, eq := false }),
  (125,
    { d := TD.scalar, size := 1, bytes := 8,
      zero := [AV.nilf], t := none, eq := false }),
  (126,
    { d := TD.scalar, size := 1, bytes := 8,
      zero := [AV.nilp], t := none, eq := false }),
  (127,
    { d := TD.scalar, size := 1, bytes := 8,
      zero := [AV.nilf], t := none, eq := false }),
  (128,
    { d := TD.scalar, size := 1, bytes := 8,
      zero := [AV.nilf], t := none, eq := false }),
  (129,
    { d := TD.scalar, size := 1, bytes := 8,
      zero := [AV.nilf], t := none, eq := false }),
  (130,
    { d := TD.scalar, size := 1, bytes := 8,
      zero := [AV.nilf], t := none, eq := false }),
  (131,
    { d := TD.scalar, size := 1, bytes := 8,
      zero := [AV.nilf], t := none, eq := false }),
  (132,
    { d := TD.scalar, size := 1, bytes := 8,
      zero := [AV.nilf], t := none, eq := false }),
  (133,
    { d := TD.scalar, size := 1, bytes := 8,
      zero := [AV.nilf], t := none, eq := false }),
  (134,
    { d := TD.scalar, size := 1, bytes := 8,
      zero := [AV.nilf], t := none, eq := false }),
  (135,
    { d := TD.struct [(0, 3), (1, 3)], size := 2, bytes := 16,
      zero :=
        [AV.int IntKind.i64 (Int.ofNat 0),
          AV.int IntKind.i64 (Int.ofNat 0)],
      t :=
        some
          ((Ty.int IntKind.i64).pair
            (Ty.int IntKind.i64)),
      eq := true }),
  (136,
    { d := TD.struct [(0, 3), (1, 3)], size := 2, bytes := 16,
      zero :=
        [AV.int IntKind.i64 (Int.ofNat 0),
          AV.int IntKind.i64 (Int.ofNat 0)],
      t :=
        some
          ((Ty.int IntKind.i64).pair
            (Ty.int IntKind.i64)),
      eq := true }),
  (137,
    { d := TD.scalar, size := 1, bytes := 8,
      zero := [AV.nilf], t := none, eq := false }),
  (138,
    { d := TD.scalar, size := 1, bytes := 8,
      zero := [AV.nilf], t := none, eq := false }),
  (139,
    { d := TD.scalar, size := 1, bytes := 8,
      zero := [AV.nilf], t := none, eq := false }),
  (140,
    { d := TD.scalar, size := 1, bytes := 8,
      zero := [AV.nilf], t := none, eq := false }),
  (141,
    { d := TD.scalar, size := 1, bytes := 8,
      zero := [AV.nilf], t := none, eq := false }),
  (142,
    { d := TD.scalar, size := 1, bytes := 8,
      zero := [AV.nilf], t := none, eq := false }),
  (143,
    { d := TD.scalar, size := 1, bytes := 8,
      zero := [AV.nilf], t := none, eq := false }),
  (144,
    { d := TD.scalar, size := 1, bytes := 8,
      zero := [AV.nilf], t := none, eq := false }),
  (145,
    { d := TD.scalar, size := 1, bytes := 8,
      zero := [AV.nilf], t := none, eq := false }),
  (146,
    { d := TD.scalar, size := 1, bytes := 8,
      zero := [AV.nilf], t := none, eq := false }),
  (147,
    { d := TD.struct [(0, 17), (1, 17), (2, 17), (3, 9)], size := 4, bytes := 40,
      zero :=
        [AV.nilp, AV.nilp,
          AV.nilp, AV.str { data := { toList := [] } }],
      t := none, eq := false }),
  (148,
    { d := TD.struct [(0, 17), (1, 17), (2, 17), (3, 9)], size := 4, bytes := 40,
      zero :=
        [AV.nilp, AV.nilp,
          AV.nilp, AV.str { data := { toList := [] } }],
      t := none, eq := false }),
  (149,
    { d := TD.array 0 16, size := 0, bytes := 0, zero := [], t := none,
      eq := false })]
theorem tab_eq : tab = tabOf Try.prog (List.range 150) := by kernel_rfl
theorem tab_ok : TabOk Try.prog tab := by rw [tab_eq]; exact tabOf_ok _ _
theorem mixed : Try.prog.follows .mixedOrders = true := by kernel_rfl
end Go.Proofs.Ytjhhkfjabaojhaa.W

/- The table of the program's types, and that it is the program's. -/
import Derived.Test.YtjhhkfjabaojhaaProg
import Derived.Test.YtjhhkfjabaojhaaAwY
namespace Go.Proofs.Ytjhhkfjabaojhaa.W
open Go Go.Proofs Go.Proofs.Ytjhhkfjabaojhaa.Aw
def tab : Tab := [(0,
    { d := TD.unk, size := 0, bytes := 0, zero := [], t := none,
      eq := false }),
  (1,
    { d := TD.scalar, size := 1, bytes := 8,
      zero := [AV.nilf], t := none, eq := false }),
  (2,
    { d := TD.scalar, size := 1, bytes := 8,
      zero := [AV.int IntKind.i64 (Int.ofNat 0)],
      t := some (Ty.int IntKind.i64), eq := true }),
  (3,
    { d := TD.scalar, size := 1, bytes := 8,
      zero := [AV.int IntKind.i64 (Int.ofNat 0)],
      t := some (Ty.int IntKind.i64), eq := true }),
  (4,
    { d := TD.scalar, size := 1, bytes := 1,
      zero := [AV.bool false],
      t := some Ty.bool, eq := true }),
  (5,
    { d := TD.scalar, size := 1, bytes := 1,
      zero := [AV.int IntKind.u8 (Int.ofNat 0)],
      t := some (Ty.int IntKind.u8), eq := true }),
  (6,
    { d := TD.scalar, size := 1, bytes := 1,
      zero := [AV.int IntKind.u8 (Int.ofNat 0)],
      t := some (Ty.int IntKind.u8), eq := true }),
  (7,
    { d := TD.struct [(0, 2), (1, 3), (2, 4), (3, 6)], size := 4, bytes := 24,
      zero :=
        [AV.int IntKind.i64 (Int.ofNat 0),
          AV.int IntKind.i64 (Int.ofNat 0),
          AV.bool false,
          AV.int IntKind.u8 (Int.ofNat 0)],
      t :=
        some
          ((Ty.int IntKind.i64).pair
            ((Ty.int IntKind.i64).pair
              (Ty.bool.pair (Ty.int IntKind.u8)))),
      eq := true }),
  (8,
    { d := TD.struct [(0, 2), (1, 3), (2, 4), (3, 6)], size := 4, bytes := 24,
      zero :=
        [AV.int IntKind.i64 (Int.ofNat 0),
          AV.int IntKind.i64 (Int.ofNat 0),
          AV.bool false,
          AV.int IntKind.u8 (Int.ofNat 0)],
      t :=
        some
          ((Ty.int IntKind.i64).pair
            ((Ty.int IntKind.i64).pair
              (Ty.bool.pair (Ty.int IntKind.u8)))),
      eq := false }),
  (9,
    { d := TD.scalar, size := 1, bytes := 16,
      zero := [AV.str { data := { toList := [] } }],
      t := some Ty.str, eq := true }),
  (10,
    { d := TD.scalar, size := 1, bytes := 16,
      zero := [AV.str { data := { toList := [] } }],
      t := some Ty.str, eq := true }),
  (11,
    { d := TD.scalar, size := 1, bytes := 16,
      zero := [AV.str { data := { toList := [] } }],
      t := some Ty.str, eq := true }),
  (12,
    { d := TD.scalar, size := 1, bytes := 8,
      zero := [AV.int IntKind.u64 (Int.ofNat 0)],
      t := some (Ty.int IntKind.u64), eq := true }),
  (13,
    { d := TD.struct [(0, 9), (1, 12)], size := 2, bytes := 24,
      zero :=
        [AV.str { data := { toList := [] } },
          AV.int IntKind.u64 (Int.ofNat 0)],
      t :=
        some (Ty.str.pair (Ty.int IntKind.u64)),
      eq := false }),
  (14,
    { d := TD.struct [(0, 9), (1, 12)], size := 2, bytes := 24,
      zero :=
        [AV.str { data := { toList := [] } },
          AV.int IntKind.u64 (Int.ofNat 0)],
      t :=
        some (Ty.str.pair (Ty.int IntKind.u64)),
      eq := false }),
  (15,
    { d := TD.scalar, size := 1, bytes := 8,
      zero := [AV.nilp], t := none, eq := false }),
  (16,
    { d := TD.scalar, size := 1, bytes := 8,
      zero := [AV.nilp], t := none, eq := false }),
  (17,
    { d := TD.scalar, size := 1, bytes := 8,
      zero := [AV.nilp], t := none, eq := false }),
  (18,
    { d := TD.struct [(0, 17)], size := 1, bytes := 8,
      zero := [AV.nilp], t := none, eq := false }),
  (19,
    { d := TD.struct [(0, 17)], size := 1, bytes := 8,
      zero := [AV.nilp], t := none, eq := false }),
  (20,
    { d := TD.scalar, size := 1, bytes := 16,
      zero := [AV.nili], t := none, eq := false }),
  (21,
    { d := TD.scalar, size := 1, bytes := 4,
      zero := [AV.int IntKind.i32 (Int.ofNat 0)],
      t := some (Ty.int IntKind.i32), eq := true }),
  (22,
    { d := TD.slice 3, size := 1, bytes := 24,
      zero := [AV.nils 3 (Ty.int IntKind.i64)],
      t := some (Ty.list 3 (Ty.int IntKind.i64)),
      eq := false }),
  (23,
    { d := TD.scalar, size := 1, bytes := 8,
      zero := [AV.nilf], t := none, eq := false }),
  (24,
    { d := TD.scalar, size := 1, bytes := 8,
      zero := [AV.nilf], t := none, eq := false }),
  (25,
    { d := TD.struct [(0, 3), (1, 3)], size := 2, bytes := 16,
      zero :=
        [AV.int IntKind.i64 (Int.ofNat 0),
          AV.int IntKind.i64 (Int.ofNat 0)],
      t :=
        some
          ((Ty.int IntKind.i64).pair
            (Ty.int IntKind.i64)),
      eq := true }),
  (26,
    { d := TD.struct [(0, 3), (1, 3)], size := 2, bytes := 16,
      zero :=
        [AV.int IntKind.i64 (Int.ofNat 0),
          AV.int IntKind.i64 (Int.ofNat 0)],
      t :=
        some
          ((Ty.int IntKind.i64).pair
            (Ty.int IntKind.i64)),
      eq := true }),
  (27,
    { d := TD.struct [(0, 3), (1, 26), (3, 4), (4, 4)], size := 5, bytes := 32,
      zero :=
        [AV.int IntKind.i64 (Int.ofNat 0),
          AV.int IntKind.i64 (Int.ofNat 0),
          AV.int IntKind.i64 (Int.ofNat 0),
          AV.bool false, AV.bool false],
      t :=
        some
          ((Ty.int IntKind.i64).pair
            (((Ty.int IntKind.i64).pair
                  (Ty.int IntKind.i64)).pair
              (Ty.bool.pair Ty.bool))),
      eq := true }),
  (28,
    { d := TD.struct [(0, 3), (1, 26), (3, 4), (4, 4)], size := 5, bytes := 32,
      zero :=
        [AV.int IntKind.i64 (Int.ofNat 0),
          AV.int IntKind.i64 (Int.ofNat 0),
          AV.int IntKind.i64 (Int.ofNat 0),
          AV.bool false, AV.bool false],
      t :=
        some
          ((Ty.int IntKind.i64).pair
            (((Ty.int IntKind.i64).pair
                  (Ty.int IntKind.i64)).pair
              (Ty.bool.pair Ty.bool))),
      eq := true }),
  (29,
    { d := TD.scalar, size := 1, bytes := 8,
      zero := [AV.nilf], t := none, eq := false }),
  (30,
    { d := TD.scalar, size := 1, bytes := 8,
      zero := [AV.nilf], t := none, eq := false }),
  (31,
    { d := TD.scalar, size := 1, bytes := 8,
      zero := [AV.nilf], t := none, eq := false }),
  (32,
    { d := TD.scalar, size := 1, bytes := 8,
      zero := [AV.nilf], t := none, eq := false }),
  (33,
    { d := TD.scalar, size := 1, bytes := 8,
      zero := [AV.nilf], t := none, eq := false }),
  (34,
    { d := TD.scalar, size := 1, bytes := 8,
      zero := [AV.nilf], t := none, eq := false }),
  (35,
    { d := TD.slice 45, size := 1, bytes := 24,
      zero :=
        [AV.nils 45
            ((Ty.int IntKind.i64).pair
              ((Ty.int IntKind.i64).pair
                ((Ty.int IntKind.i64).pair
                  (Ty.int IntKind.i64))))],
      t :=
        some
          (Ty.list 45
            ((Ty.int IntKind.i64).pair
              ((Ty.int IntKind.i64).pair
                ((Ty.int IntKind.i64).pair
                  (Ty.int IntKind.i64))))),
      eq := false }),
  (36,
    { d := TD.scalar, size := 1, bytes := 2,
      zero := [AV.int IntKind.i16 (Int.ofNat 0)],
      t := some (Ty.int IntKind.i16), eq := true }),
  (37,
    { d := TD.slice 47, size := 1, bytes := 24,
      zero :=
        [AV.nils 47
            ((Ty.int IntKind.i64).pair
              ((Ty.int IntKind.i64).pair
                ((Ty.int IntKind.i64).pair
                  (Ty.int IntKind.i64))))],
      t :=
        some
          (Ty.list 47
            ((Ty.int IntKind.i64).pair
              ((Ty.int IntKind.i64).pair
                ((Ty.int IntKind.i64).pair
                  (Ty.int IntKind.i64))))),
      eq := false }),
  (38,
    { d := TD.slice 106, size := 1, bytes := 24,
      zero :=
        [AV.nils 106
            ((Ty.int IntKind.i64).pair
              (((Ty.int IntKind.i64).pair
                    ((Ty.int IntKind.i64).pair
                      ((Ty.int IntKind.i64).pair
                        (Ty.int IntKind.i64)))).pair
                ((Ty.int IntKind.i64).pair
                  (Ty.int IntKind.i64))))],
      t :=
        some
          (Ty.list 106
            ((Ty.int IntKind.i64).pair
              (((Ty.int IntKind.i64).pair
                    ((Ty.int IntKind.i64).pair
                      ((Ty.int IntKind.i64).pair
                        (Ty.int IntKind.i64)))).pair
                ((Ty.int IntKind.i64).pair
                  (Ty.int IntKind.i64))))),
      eq := false }),
  (39,
    { d := TD.struct [(0, 37), (1, 38)], size := 2, bytes := 48,
      zero :=
        [AV.nils 47
            ((Ty.int IntKind.i64).pair
              ((Ty.int IntKind.i64).pair
                ((Ty.int IntKind.i64).pair
                  (Ty.int IntKind.i64)))),
          AV.nils 106
            ((Ty.int IntKind.i64).pair
              (((Ty.int IntKind.i64).pair
                    ((Ty.int IntKind.i64).pair
                      ((Ty.int IntKind.i64).pair
                        (Ty.int IntKind.i64)))).pair
                ((Ty.int IntKind.i64).pair
                  (Ty.int IntKind.i64))))],
      t :=
        some
          ((Ty.list 47
                ((Ty.int IntKind.i64).pair
                  ((Ty.int IntKind.i64).pair
                    ((Ty.int IntKind.i64).pair
                      (Ty.int IntKind.i64))))).pair
            (Ty.list 106
              ((Ty.int IntKind.i64).pair
                (((Ty.int IntKind.i64).pair
                      ((Ty.int IntKind.i64).pair
                        ((Ty.int IntKind.i64).pair
                          (Ty.int IntKind.i64)))).pair
                  ((Ty.int IntKind.i64).pair
                    (Ty.int IntKind.i64)))))),
      eq := false }),
  (40,
    { d := TD.struct [(0, 37), (1, 38)], size := 2, bytes := 48,
      zero :=
        [AV.nils 47
            ((Ty.int IntKind.i64).pair
              ((Ty.int IntKind.i64).pair
                ((Ty.int IntKind.i64).pair
                  (Ty.int IntKind.i64)))),
          AV.nils 106
            ((Ty.int IntKind.i64).pair
              (((Ty.int IntKind.i64).pair
                    ((Ty.int IntKind.i64).pair
                      ((Ty.int IntKind.i64).pair
                        (Ty.int IntKind.i64)))).pair
                ((Ty.int IntKind.i64).pair
                  (Ty.int IntKind.i64))))],
      t :=
        some
          ((Ty.list 47
                ((Ty.int IntKind.i64).pair
                  ((Ty.int IntKind.i64).pair
                    ((Ty.int IntKind.i64).pair
                      (Ty.int IntKind.i64))))).pair
            (Ty.list 106
              ((Ty.int IntKind.i64).pair
                (((Ty.int IntKind.i64).pair
                      ((Ty.int IntKind.i64).pair
                        ((Ty.int IntKind.i64).pair
                          (Ty.int IntKind.i64)))).pair
                  ((Ty.int IntKind.i64).pair
                    (Ty.int IntKind.i64)))))),
      eq := false }),
  (41,
    { d := TD.unk, size := 0, bytes := 0, zero := [], t := none,
      eq := false }),
  (42,
    { d := TD.scalar, size := 1, bytes := 8,
      zero := [AV.nilf], t := none, eq := false }),
  (43,
    { d := TD.scalar, size := 1, bytes := 8,
      zero := [AV.nilf], t := none, eq := false }),
  (44,
    { d := TD.array 4 3, size := 4, bytes := 32,
      zero :=
        [AV.int IntKind.i64 (Int.ofNat 0),
          AV.int IntKind.i64 (Int.ofNat 0),
          AV.int IntKind.i64 (Int.ofNat 0),
          AV.int IntKind.i64 (Int.ofNat 0)],
      t :=
        some
          ((Ty.int IntKind.i64).pair
            ((Ty.int IntKind.i64).pair
              ((Ty.int IntKind.i64).pair
                (Ty.int IntKind.i64)))),
      eq := true }),
  (45,
    { d := TD.array 4 3, size := 4, bytes := 32,
      zero :=
        [AV.int IntKind.i64 (Int.ofNat 0),
          AV.int IntKind.i64 (Int.ofNat 0),
          AV.int IntKind.i64 (Int.ofNat 0),
          AV.int IntKind.i64 (Int.ofNat 0)],
      t :=
        some
          ((Ty.int IntKind.i64).pair
            ((Ty.int IntKind.i64).pair
              ((Ty.int IntKind.i64).pair
                (Ty.int IntKind.i64)))),
      eq := true }),
  (46,
    { d := TD.struct [(0, 3), (1, 3), (2, 3), (3, 3)], size := 4, bytes := 32,
      zero :=
        [AV.int IntKind.i64 (Int.ofNat 0),
          AV.int IntKind.i64 (Int.ofNat 0),
          AV.int IntKind.i64 (Int.ofNat 0),
          AV.int IntKind.i64 (Int.ofNat 0)],
      t :=
        some
          ((Ty.int IntKind.i64).pair
            ((Ty.int IntKind.i64).pair
              ((Ty.int IntKind.i64).pair
                (Ty.int IntKind.i64)))),
      eq := true }),
  (47,
    { d := TD.struct [(0, 3), (1, 3), (2, 3), (3, 3)], size := 4, bytes := 32,
      zero :=
        [AV.int IntKind.i64 (Int.ofNat 0),
          AV.int IntKind.i64 (Int.ofNat 0),
          AV.int IntKind.i64 (Int.ofNat 0),
          AV.int IntKind.i64 (Int.ofNat 0)],
      t :=
        some
          ((Ty.int IntKind.i64).pair
            ((Ty.int IntKind.i64).pair
              ((Ty.int IntKind.i64).pair
                (Ty.int IntKind.i64)))),
      eq := true }),
  (48,
    { d := TD.scalar, size := 1, bytes := 8,
      zero := [AV.nilf], t := none, eq := false }),
  (49,
    { d := TD.scalar, size := 1, bytes := 8,
      zero := [AV.nilf], t := none, eq := false }),
  (50,
    { d := TD.scalar, size := 1, bytes := 8,
      zero := [AV.nilf], t := none, eq := false }),
  (51,
    { d := TD.scalar, size := 1, bytes := 8,
      zero := [AV.nilf], t := none, eq := false }),
  (52,
    { d := TD.slice 56, size := 1, bytes := 24,
      zero :=
        [AV.nils 56
            ((Ty.int IntKind.i64).pair
              ((Ty.int IntKind.i64).pair
                (Ty.int IntKind.i64)))],
      t :=
        some
          (Ty.list 56
            ((Ty.int IntKind.i64).pair
              ((Ty.int IntKind.i64).pair
                (Ty.int IntKind.i64)))),
      eq := false }),
  (53,
    { d := TD.struct [(0, 3), (1, 22), (2, 4), (3, 4)], size := 4, bytes := 40,
      zero :=
        [AV.int IntKind.i64 (Int.ofNat 0),
          AV.nils 3 (Ty.int IntKind.i64),
          AV.bool false, AV.bool false],
      t :=
        some
          ((Ty.int IntKind.i64).pair
            ((Ty.list 3 (Ty.int IntKind.i64)).pair
              (Ty.bool.pair Ty.bool))),
      eq := false }),
  (54,
    { d := TD.struct [(0, 3), (1, 22), (2, 4), (3, 4)], size := 4, bytes := 40,
      zero :=
        [AV.int IntKind.i64 (Int.ofNat 0),
          AV.nils 3 (Ty.int IntKind.i64),
          AV.bool false, AV.bool false],
      t :=
        some
          ((Ty.int IntKind.i64).pair
            ((Ty.list 3 (Ty.int IntKind.i64)).pair
              (Ty.bool.pair Ty.bool))),
      eq := false }),
  (55,
    { d := TD.struct [(0, 3), (1, 3), (2, 3)], size := 3, bytes := 24,
      zero :=
        [AV.int IntKind.i64 (Int.ofNat 0),
          AV.int IntKind.i64 (Int.ofNat 0),
          AV.int IntKind.i64 (Int.ofNat 0)],
      t :=
        some
          ((Ty.int IntKind.i64).pair
            ((Ty.int IntKind.i64).pair
              (Ty.int IntKind.i64))),
      eq := true }),
  (56,
    { d := TD.struct [(0, 3), (1, 3), (2, 3)], size := 3, bytes := 24,
      zero :=
        [AV.int IntKind.i64 (Int.ofNat 0),
          AV.int IntKind.i64 (Int.ofNat 0),
          AV.int IntKind.i64 (Int.ofNat 0)],
      t :=
        some
          ((Ty.int IntKind.i64).pair
            ((Ty.int IntKind.i64).pair
              (Ty.int IntKind.i64))),
      eq := true }),
  (57,
    { d := TD.scalar, size := 1, bytes := 8,
      zero := [AV.nilf], t := none, eq := false }),
  (58,
    { d := TD.scalar, size := 1, bytes := 8,
      zero := [AV.nilf], t := none, eq := false }),
  (59,
    { d := TD.scalar, size := 1, bytes := 8,
      zero := [AV.nilf], t := none, eq := false })]
theorem tab_eq : tab = tabOf Try.prog (List.range 60) := by kernel_rfl
theorem tab_ok : TabOk Try.prog tab := by rw [tab_eq]; exact tabOf_ok _ _
theorem mixed : Try.prog.follows .mixedOrders = true := by kernel_rfl
end Go.Proofs.Ytjhhkfjabaojhaa.W

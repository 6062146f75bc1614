/- What each function still asks for at its loops' heads, and at its ends; its regions may run in any order. No condition. -/
import Derived.Test.YtgamgcmjiancmaaDoorTy
import Derived.Test.YtgamgcmjiancmaaDoorGl
namespace Go.Proofs.YtgamgcmjiancmaaDoor
open Go.Vabs
def k3 : Nat → Option (List Nat)
  | 0 => some [0]
  | 1 => some [1]
  | 2 => some [1, 3]
  | 3 => some [1, 3, 4]
  | 4 => some [1, 3, 4, 5]
  | 5 => some [3, 4, 5, 6]
  | 6 => some [3, 4, 5, 6, 7]
  | 7 => some [7]
  | 8 => some [3, 4, 5, 6, 7]
  | 9 => some [3, 4, 5, 6, 7, 8, 9, 10]
  | 10 => some [3, 4, 5, 6, 7, 8, 9, 10, 11, 12, 13]
  | 11 => some [3, 4, 5, 6, 7, 8, 9, 10, 11, 12, 13, 14, 15, 16]
  | 12 => some [5, 6, 7, 8, 9, 10, 11, 12, 13, 14, 15, 16, 17, 18, 19]
  | 9999 => some [2]
  | _ => none
@[simp] theorem k3_0 : k3 0 = some [0] := rfl
@[simp] theorem k3_1 : k3 1 = some [1] := rfl
@[simp] theorem k3_2 : k3 2 = some [1, 3] := rfl
@[simp] theorem k3_3 : k3 3 = some [1, 3, 4] := rfl
@[simp] theorem k3_4 : k3 4 = some [1, 3, 4, 5] := rfl
@[simp] theorem k3_5 : k3 5 = some [3, 4, 5, 6] := rfl
@[simp] theorem k3_6 : k3 6 = some [3, 4, 5, 6, 7] := rfl
@[simp] theorem k3_7 : k3 7 = some [7] := rfl
@[simp] theorem k3_8 : k3 8 = some [3, 4, 5, 6, 7] := rfl
@[simp] theorem k3_9 : k3 9 = some [3, 4, 5, 6, 7, 8, 9, 10] := rfl
@[simp] theorem k3_10 : k3 10 = some [3, 4, 5, 6, 7, 8, 9, 10, 11, 12, 13] := rfl
@[simp] theorem k3_11 : k3 11 = some [3, 4, 5, 6, 7, 8, 9, 10, 11, 12, 13, 14, 15, 16] := rfl
@[simp] theorem k3_12 : k3 12 = some [5, 6, 7, 8, 9, 10, 11, 12, 13, 14, 15, 16, 17, 18, 19] := rfl
@[simp] theorem k3_30000 : k3 30000 = none := rfl
@[simp] theorem k3_30001 : k3 30001 = none := rfl
@[simp] theorem k3_30002 : k3 30002 = none := rfl
@[simp] theorem k3_30003 : k3 30003 = none := rfl
@[simp] theorem k3_30004 : k3 30004 = none := rfl
@[simp] theorem k3_30005 : k3 30005 = none := rfl
@[simp] theorem k3_30006 : k3 30006 = none := rfl
@[simp] theorem k3_30007 : k3 30007 = none := rfl
@[simp] theorem k3_30008 : k3 30008 = none := rfl
@[simp] theorem k3_30009 : k3 30009 = none := rfl
@[simp] theorem k3_30010 : k3 30010 = none := rfl
@[simp] theorem k3_30011 : k3 30011 = none := rfl
@[simp] theorem k3_30012 : k3 30012 = none := rfl
@[simp] theorem k3_9999 : k3 9999 = some [2] := rfl
def k4 : Nat → Option (List Nat)
  | 0 => some [0]
  | 1 => some [1]
  | 2 => some [1, 3]
  | 3 => some [1, 3, 4]
  | 4 => some [1, 3, 4, 5]
  | 5 => some [3, 4, 5, 6]
  | 6 => some [3, 4, 5, 6, 7]
  | 7 => some [7]
  | 8 => some [3, 4, 5, 6, 7]
  | 9 => some [3, 4, 5, 6, 7, 8]
  | 10 => some [3, 4, 5, 6, 7, 8, 9]
  | 11 => some [3, 4, 5, 6, 7, 8, 9, 10, 11, 12]
  | 12 => some [3, 4, 5, 6, 7, 8, 9, 10, 11, 12, 13, 14, 15]
  | 13 => some [3, 4, 5, 6, 7, 8, 9, 10, 11, 12, 13, 14, 15, 16, 17, 18]
  | 14 => some [3, 4, 5, 7, 8, 9, 10, 11, 12, 13, 14, 15, 16, 17, 18, 19, 20, 21]
  | 15 => some [3, 4, 5, 7, 8, 9, 10, 11, 12, 13, 14, 15, 16, 17, 18, 19, 20, 21, 22, 23, 24]
  | 16 => some [3, 4, 5, 7, 8, 9, 10, 11, 12, 13, 14, 15, 16, 17, 18, 19, 20, 21, 22, 23, 24, 25, 26, 27]
  | 17 => some [3, 4, 5, 7, 8, 9, 10, 11, 12, 13, 14, 15, 16, 17, 18, 19, 20, 21, 22, 23, 24, 25, 26, 27, 28, 29, 30]
  | 18 => some [3, 4, 5, 7, 10, 11, 12, 13, 14, 15, 16, 17, 18, 19, 20, 21, 22, 23, 24, 25, 26, 27, 28, 29, 30, 31, 32, 33]
  | 19 => some [4, 5, 7, 11, 17, 23, 29, 34]
  | 9999 => some [2]
  | _ => none
@[simp] theorem k4_0 : k4 0 = some [0] := rfl
@[simp] theorem k4_1 : k4 1 = some [1] := rfl
@[simp] theorem k4_2 : k4 2 = some [1, 3] := rfl
@[simp] theorem k4_3 : k4 3 = some [1, 3, 4] := rfl
@[simp] theorem k4_4 : k4 4 = some [1, 3, 4, 5] := rfl
@[simp] theorem k4_5 : k4 5 = some [3, 4, 5, 6] := rfl
@[simp] theorem k4_6 : k4 6 = some [3, 4, 5, 6, 7] := rfl
@[simp] theorem k4_7 : k4 7 = some [7] := rfl
@[simp] theorem k4_8 : k4 8 = some [3, 4, 5, 6, 7] := rfl
@[simp] theorem k4_9 : k4 9 = some [3, 4, 5, 6, 7, 8] := rfl
@[simp] theorem k4_10 : k4 10 = some [3, 4, 5, 6, 7, 8, 9] := rfl
@[simp] theorem k4_11 : k4 11 = some [3, 4, 5, 6, 7, 8, 9, 10, 11, 12] := rfl
@[simp] theorem k4_12 : k4 12 = some [3, 4, 5, 6, 7, 8, 9, 10, 11, 12, 13, 14, 15] := rfl
@[simp] theorem k4_13 : k4 13 = some [3, 4, 5, 6, 7, 8, 9, 10, 11, 12, 13, 14, 15, 16, 17, 18] := rfl
@[simp] theorem k4_14 : k4 14 = some [3, 4, 5, 7, 8, 9, 10, 11, 12, 13, 14, 15, 16, 17, 18, 19, 20, 21] := rfl
@[simp] theorem k4_15 : k4 15 = some [3, 4, 5, 7, 8, 9, 10, 11, 12, 13, 14, 15, 16, 17, 18, 19, 20, 21, 22, 23, 24] := rfl
@[simp] theorem k4_16 : k4 16 = some [3, 4, 5, 7, 8, 9, 10, 11, 12, 13, 14, 15, 16, 17, 18, 19, 20, 21, 22, 23, 24, 25, 26, 27] := rfl
@[simp] theorem k4_17 : k4 17 = some [3, 4, 5, 7, 8, 9, 10, 11, 12, 13, 14, 15, 16, 17, 18, 19, 20, 21, 22, 23, 24, 25, 26, 27, 28, 29, 30] := rfl
@[simp] theorem k4_18 : k4 18 = some [3, 4, 5, 7, 10, 11, 12, 13, 14, 15, 16, 17, 18, 19, 20, 21, 22, 23, 24, 25, 26, 27, 28, 29, 30, 31, 32, 33] := rfl
@[simp] theorem k4_19 : k4 19 = some [4, 5, 7, 11, 17, 23, 29, 34] := rfl
@[simp] theorem k4_30000 : k4 30000 = none := rfl
@[simp] theorem k4_30001 : k4 30001 = none := rfl
@[simp] theorem k4_30002 : k4 30002 = none := rfl
@[simp] theorem k4_30003 : k4 30003 = none := rfl
@[simp] theorem k4_30004 : k4 30004 = none := rfl
@[simp] theorem k4_30005 : k4 30005 = none := rfl
@[simp] theorem k4_30006 : k4 30006 = none := rfl
@[simp] theorem k4_30007 : k4 30007 = none := rfl
@[simp] theorem k4_30008 : k4 30008 = none := rfl
@[simp] theorem k4_30009 : k4 30009 = none := rfl
@[simp] theorem k4_30010 : k4 30010 = none := rfl
@[simp] theorem k4_30011 : k4 30011 = none := rfl
@[simp] theorem k4_30012 : k4 30012 = none := rfl
@[simp] theorem k4_30013 : k4 30013 = none := rfl
@[simp] theorem k4_30014 : k4 30014 = none := rfl
@[simp] theorem k4_30015 : k4 30015 = none := rfl
@[simp] theorem k4_30016 : k4 30016 = none := rfl
@[simp] theorem k4_30017 : k4 30017 = none := rfl
@[simp] theorem k4_30018 : k4 30018 = none := rfl
@[simp] theorem k4_30019 : k4 30019 = none := rfl
@[simp] theorem k4_9999 : k4 9999 = some [2] := rfl
def k5 : Nat → Option (List Nat)
  | 0 => some [0, 1, 2]
  | 1 => some [0, 1, 2]
  | 2 => some [0, 1, 2, 7]
  | 3 => some [7]
  | 4 => some [0, 1, 2, 7]
  | 5 => some [0, 1, 2, 7, 8, 9, 10]
  | 6 => some []
  | 7 => some [0, 1, 2, 7]
  | 8 => some [0, 1, 2, 7, 11]
  | 9 => some [7, 11]
  | 10 => some [0, 1, 2, 7, 11]
  | 11 => some [0, 1, 7, 11, 12, 13, 14]
  | 12 => some [0, 1, 7, 11, 12, 13, 14, 15]
  | 9999 => some [6]
  | _ => none
@[simp] theorem k5_0 : k5 0 = some [0, 1, 2] := rfl
@[simp] theorem k5_1 : k5 1 = some [0, 1, 2] := rfl
@[simp] theorem k5_2 : k5 2 = some [0, 1, 2, 7] := rfl
@[simp] theorem k5_3 : k5 3 = some [7] := rfl
@[simp] theorem k5_4 : k5 4 = some [0, 1, 2, 7] := rfl
@[simp] theorem k5_5 : k5 5 = some [0, 1, 2, 7, 8, 9, 10] := rfl
@[simp] theorem k5_6 : k5 6 = some [] := rfl
@[simp] theorem k5_7 : k5 7 = some [0, 1, 2, 7] := rfl
@[simp] theorem k5_8 : k5 8 = some [0, 1, 2, 7, 11] := rfl
@[simp] theorem k5_9 : k5 9 = some [7, 11] := rfl
@[simp] theorem k5_10 : k5 10 = some [0, 1, 2, 7, 11] := rfl
@[simp] theorem k5_11 : k5 11 = some [0, 1, 7, 11, 12, 13, 14] := rfl
@[simp] theorem k5_12 : k5 12 = some [0, 1, 7, 11, 12, 13, 14, 15] := rfl
@[simp] theorem k5_30000 : k5 30000 = none := rfl
@[simp] theorem k5_30001 : k5 30001 = none := rfl
@[simp] theorem k5_30002 : k5 30002 = none := rfl
@[simp] theorem k5_30003 : k5 30003 = none := rfl
@[simp] theorem k5_30004 : k5 30004 = none := rfl
@[simp] theorem k5_30005 : k5 30005 = none := rfl
@[simp] theorem k5_30006 : k5 30006 = none := rfl
@[simp] theorem k5_30007 : k5 30007 = none := rfl
@[simp] theorem k5_30008 : k5 30008 = none := rfl
@[simp] theorem k5_30009 : k5 30009 = none := rfl
@[simp] theorem k5_30010 : k5 30010 = none := rfl
@[simp] theorem k5_30011 : k5 30011 = none := rfl
@[simp] theorem k5_30012 : k5 30012 = none := rfl
@[simp] theorem k5_9999 : k5 9999 = some [6] := rfl
def k6 : Nat → Option (List Nat)
  | 0 => some [0]
  | 1 => some [1]
  | 2 => some [1, 3]
  | 3 => some [1, 3, 4]
  | 4 => some [1, 3, 4, 5]
  | 5 => some [3, 4, 5, 6]
  | 6 => some [3, 4, 5, 6, 7]
  | 7 => some [7]
  | 8 => some [3, 4, 5, 6, 7]
  | 9 => some [3, 4, 5, 6, 7, 8]
  | 10 => some [3, 4, 5, 7, 8, 9]
  | 11 => some [3, 4, 5, 7, 8, 9, 10, 11, 12]
  | 12 => some [5, 7, 10, 11, 12]
  | 13 => some [3, 4, 5, 7, 8, 9, 10, 11, 12]
  | 14 => some [3, 4, 5, 7, 8, 9, 10, 11, 12]
  | 15 => some [3, 5, 7, 8, 10, 11, 12, 15]
  | 9999 => some [2]
  | _ => none
@[simp] theorem k6_0 : k6 0 = some [0] := rfl
@[simp] theorem k6_1 : k6 1 = some [1] := rfl
@[simp] theorem k6_2 : k6 2 = some [1, 3] := rfl
@[simp] theorem k6_3 : k6 3 = some [1, 3, 4] := rfl
@[simp] theorem k6_4 : k6 4 = some [1, 3, 4, 5] := rfl
@[simp] theorem k6_5 : k6 5 = some [3, 4, 5, 6] := rfl
@[simp] theorem k6_6 : k6 6 = some [3, 4, 5, 6, 7] := rfl
@[simp] theorem k6_7 : k6 7 = some [7] := rfl
@[simp] theorem k6_8 : k6 8 = some [3, 4, 5, 6, 7] := rfl
@[simp] theorem k6_9 : k6 9 = some [3, 4, 5, 6, 7, 8] := rfl
@[simp] theorem k6_10 : k6 10 = some [3, 4, 5, 7, 8, 9] := rfl
@[simp] theorem k6_11 : k6 11 = some [3, 4, 5, 7, 8, 9, 10, 11, 12] := rfl
@[simp] theorem k6_12 : k6 12 = some [5, 7, 10, 11, 12] := rfl
@[simp] theorem k6_13 : k6 13 = some [3, 4, 5, 7, 8, 9, 10, 11, 12] := rfl
@[simp] theorem k6_14 : k6 14 = some [3, 4, 5, 7, 8, 9, 10, 11, 12] := rfl
@[simp] theorem k6_15 : k6 15 = some [3, 5, 7, 8, 10, 11, 12, 15] := rfl
@[simp] theorem k6_30000 : k6 30000 = none := rfl
@[simp] theorem k6_30001 : k6 30001 = none := rfl
@[simp] theorem k6_30002 : k6 30002 = none := rfl
@[simp] theorem k6_30003 : k6 30003 = none := rfl
@[simp] theorem k6_30004 : k6 30004 = none := rfl
@[simp] theorem k6_30005 : k6 30005 = none := rfl
@[simp] theorem k6_30006 : k6 30006 = none := rfl
@[simp] theorem k6_30007 : k6 30007 = none := rfl
@[simp] theorem k6_30008 : k6 30008 = none := rfl
@[simp] theorem k6_30009 : k6 30009 = none := rfl
@[simp] theorem k6_30010 : k6 30010 = none := rfl
@[simp] theorem k6_30011 : k6 30011 = none := rfl
@[simp] theorem k6_30012 : k6 30012 = none := rfl
@[simp] theorem k6_30013 : k6 30013 = none := rfl
@[simp] theorem k6_30014 : k6 30014 = none := rfl
@[simp] theorem k6_30015 : k6 30015 = none := rfl
@[simp] theorem k6_9999 : k6 9999 = some [2] := rfl
def k7 : Nat → Option (List Nat)
  | 0 => some [0]
  | 1 => some [1]
  | 2 => some [1, 3]
  | 3 => some [1, 3, 4]
  | 4 => some [1, 3, 4, 5]
  | 5 => some [3, 4, 5, 6]
  | 6 => some [3, 4, 5, 6, 7]
  | 7 => some [7]
  | 8 => some [3, 4, 5, 6, 7]
  | 9 => some [3, 4, 5, 6, 7, 8, 9]
  | 10 => some [3, 4, 5, 6, 7, 8, 9, 10, 11]
  | 11 => some [3, 4, 5, 6, 7, 8, 9, 10, 11, 13]
  | 12 => some [7, 8, 9, 11, 13]
  | 13 => some [3, 4, 5, 6, 7, 8, 9, 10, 11, 13]
  | 14 => some [3, 4, 5, 6, 7, 8, 9, 10, 11, 13, 14, 15]
  | 15 => some [4, 5, 7, 8, 9, 10, 11, 13, 14, 15, 16]
  | 16 => some [4, 5, 7, 8, 9, 10, 11, 13, 14, 15, 17, 18]
  | 9999 => some [2]
  | _ => none
@[simp] theorem k7_0 : k7 0 = some [0] := rfl
@[simp] theorem k7_1 : k7 1 = some [1] := rfl
@[simp] theorem k7_2 : k7 2 = some [1, 3] := rfl
@[simp] theorem k7_3 : k7 3 = some [1, 3, 4] := rfl
@[simp] theorem k7_4 : k7 4 = some [1, 3, 4, 5] := rfl
@[simp] theorem k7_5 : k7 5 = some [3, 4, 5, 6] := rfl
@[simp] theorem k7_6 : k7 6 = some [3, 4, 5, 6, 7] := rfl
@[simp] theorem k7_7 : k7 7 = some [7] := rfl
@[simp] theorem k7_8 : k7 8 = some [3, 4, 5, 6, 7] := rfl
@[simp] theorem k7_9 : k7 9 = some [3, 4, 5, 6, 7, 8, 9] := rfl
@[simp] theorem k7_10 : k7 10 = some [3, 4, 5, 6, 7, 8, 9, 10, 11] := rfl
@[simp] theorem k7_11 : k7 11 = some [3, 4, 5, 6, 7, 8, 9, 10, 11, 13] := rfl
@[simp] theorem k7_12 : k7 12 = some [7, 8, 9, 11, 13] := rfl
@[simp] theorem k7_13 : k7 13 = some [3, 4, 5, 6, 7, 8, 9, 10, 11, 13] := rfl
@[simp] theorem k7_14 : k7 14 = some [3, 4, 5, 6, 7, 8, 9, 10, 11, 13, 14, 15] := rfl
@[simp] theorem k7_15 : k7 15 = some [4, 5, 7, 8, 9, 10, 11, 13, 14, 15, 16] := rfl
@[simp] theorem k7_16 : k7 16 = some [4, 5, 7, 8, 9, 10, 11, 13, 14, 15, 17, 18] := rfl
@[simp] theorem k7_30000 : k7 30000 = none := rfl
@[simp] theorem k7_30001 : k7 30001 = none := rfl
@[simp] theorem k7_30002 : k7 30002 = none := rfl
@[simp] theorem k7_30003 : k7 30003 = none := rfl
@[simp] theorem k7_30004 : k7 30004 = none := rfl
@[simp] theorem k7_30005 : k7 30005 = none := rfl
@[simp] theorem k7_30006 : k7 30006 = none := rfl
@[simp] theorem k7_30007 : k7 30007 = none := rfl
@[simp] theorem k7_30008 : k7 30008 = none := rfl
@[simp] theorem k7_30009 : k7 30009 = none := rfl
@[simp] theorem k7_30010 : k7 30010 = none := rfl
@[simp] theorem k7_30011 : k7 30011 = none := rfl
@[simp] theorem k7_30012 : k7 30012 = none := rfl
@[simp] theorem k7_30013 : k7 30013 = none := rfl
@[simp] theorem k7_30014 : k7 30014 = none := rfl
@[simp] theorem k7_30015 : k7 30015 = none := rfl
@[simp] theorem k7_30016 : k7 30016 = none := rfl
@[simp] theorem k7_9999 : k7 9999 = some [2] := rfl
def k8 : Nat → Option (List Nat)
  | 0 => some [0, 1]
  | 1 => some [0, 1]
  | 2 => some [0, 1, 5]
  | 3 => some [5]
  | 4 => some [0, 1, 5]
  | 5 => some [0, 1, 5, 6]
  | 6 => some [0, 1, 5, 6, 7]
  | 7 => some [0, 1, 5, 6, 7, 8, 9, 10]
  | 8 => some []
  | 9 => some [0, 5, 6, 8, 9, 10]
  | 9999 => some [4]
  | _ => none
@[simp] theorem k8_0 : k8 0 = some [0, 1] := rfl
@[simp] theorem k8_1 : k8 1 = some [0, 1] := rfl
@[simp] theorem k8_2 : k8 2 = some [0, 1, 5] := rfl
@[simp] theorem k8_3 : k8 3 = some [5] := rfl
@[simp] theorem k8_4 : k8 4 = some [0, 1, 5] := rfl
@[simp] theorem k8_5 : k8 5 = some [0, 1, 5, 6] := rfl
@[simp] theorem k8_6 : k8 6 = some [0, 1, 5, 6, 7] := rfl
@[simp] theorem k8_7 : k8 7 = some [0, 1, 5, 6, 7, 8, 9, 10] := rfl
@[simp] theorem k8_8 : k8 8 = some [] := rfl
@[simp] theorem k8_9 : k8 9 = some [0, 5, 6, 8, 9, 10] := rfl
@[simp] theorem k8_30000 : k8 30000 = none := rfl
@[simp] theorem k8_30001 : k8 30001 = none := rfl
@[simp] theorem k8_30002 : k8 30002 = none := rfl
@[simp] theorem k8_30003 : k8 30003 = none := rfl
@[simp] theorem k8_30004 : k8 30004 = none := rfl
@[simp] theorem k8_30005 : k8 30005 = none := rfl
@[simp] theorem k8_30006 : k8 30006 = none := rfl
@[simp] theorem k8_30007 : k8 30007 = none := rfl
@[simp] theorem k8_30008 : k8 30008 = none := rfl
@[simp] theorem k8_30009 : k8 30009 = none := rfl
@[simp] theorem k8_9999 : k8 9999 = some [4] := rfl
def k9 : Nat → Option (List Nat)
  | 0 => some []
  | 1 => some []
  | 2 => some [1, 2, 3]
  | 3 => some [1, 2, 3, 4, 5, 6]
  | 4 => some [1, 2, 3, 4, 5, 6, 7, 8, 9]
  | 5 => some [1, 2, 3, 4, 5, 6, 7, 8, 9, 10, 11, 12]
  | 6 => some [1, 2, 3, 4, 5, 6, 7, 8, 9, 10, 11, 12, 13, 14, 15]
  | 7 => some [1, 2, 3, 4, 5, 6, 7, 8, 9, 10, 11, 12, 13, 14, 15, 16, 17]
  | 8 => some [1, 2, 4, 5, 7, 8, 10, 11, 13, 14, 16, 17, 18]
  | 9999 => some [0]
  | _ => none
@[simp] theorem k9_0 : k9 0 = some [] := rfl
@[simp] theorem k9_1 : k9 1 = some [] := rfl
@[simp] theorem k9_2 : k9 2 = some [1, 2, 3] := rfl
@[simp] theorem k9_3 : k9 3 = some [1, 2, 3, 4, 5, 6] := rfl
@[simp] theorem k9_4 : k9 4 = some [1, 2, 3, 4, 5, 6, 7, 8, 9] := rfl
@[simp] theorem k9_5 : k9 5 = some [1, 2, 3, 4, 5, 6, 7, 8, 9, 10, 11, 12] := rfl
@[simp] theorem k9_6 : k9 6 = some [1, 2, 3, 4, 5, 6, 7, 8, 9, 10, 11, 12, 13, 14, 15] := rfl
@[simp] theorem k9_7 : k9 7 = some [1, 2, 3, 4, 5, 6, 7, 8, 9, 10, 11, 12, 13, 14, 15, 16, 17] := rfl
@[simp] theorem k9_8 : k9 8 = some [1, 2, 4, 5, 7, 8, 10, 11, 13, 14, 16, 17, 18] := rfl
@[simp] theorem k9_30000 : k9 30000 = none := rfl
@[simp] theorem k9_30001 : k9 30001 = none := rfl
@[simp] theorem k9_30002 : k9 30002 = none := rfl
@[simp] theorem k9_30003 : k9 30003 = none := rfl
@[simp] theorem k9_30004 : k9 30004 = none := rfl
@[simp] theorem k9_30005 : k9 30005 = none := rfl
@[simp] theorem k9_30006 : k9 30006 = none := rfl
@[simp] theorem k9_30007 : k9 30007 = none := rfl
@[simp] theorem k9_30008 : k9 30008 = none := rfl
@[simp] theorem k9_9999 : k9 9999 = some [0] := rfl
def k10 : Nat → Option (List Nat)
  | 0 => some [0, 1]
  | 1 => some [0, 1]
  | 2 => some []
  | 3 => some [0, 1]
  | 4 => some [1, 7]
  | 5 => some [1]
  | 6 => some [1, 7]
  | 9999 => some [4, 5, 6]
  | _ => none
@[simp] theorem k10_0 : k10 0 = some [0, 1] := rfl
@[simp] theorem k10_1 : k10 1 = some [0, 1] := rfl
@[simp] theorem k10_2 : k10 2 = some [] := rfl
@[simp] theorem k10_3 : k10 3 = some [0, 1] := rfl
@[simp] theorem k10_4 : k10 4 = some [1, 7] := rfl
@[simp] theorem k10_5 : k10 5 = some [1] := rfl
@[simp] theorem k10_6 : k10 6 = some [1, 7] := rfl
@[simp] theorem k10_30000 : k10 30000 = none := rfl
@[simp] theorem k10_30001 : k10 30001 = none := rfl
@[simp] theorem k10_30002 : k10 30002 = none := rfl
@[simp] theorem k10_30003 : k10 30003 = none := rfl
@[simp] theorem k10_30004 : k10 30004 = none := rfl
@[simp] theorem k10_30005 : k10 30005 = none := rfl
@[simp] theorem k10_30006 : k10 30006 = none := rfl
@[simp] theorem k10_9999 : k10 9999 = some [4, 5, 6] := rfl
def k11 : Nat → Option (List Nat)
  | 0 => some [0, 1]
  | 1 => some [0, 1]
  | 2 => some []
  | 3 => some [0, 1]
  | 4 => some [0, 1, 7]
  | 5 => some [0, 1, 7]
  | 6 => some [0, 1, 7]
  | 7 => some [1, 7, 8]
  | 8 => some [1, 7, 8, 9]
  | 9 => some [1]
  | 10 => some [7, 8]
  | 20000 => some [0, 1, 7]
  | 20001 => some [0, 1, 7]
  | 9999 => some [4, 5, 6]
  | _ => none
@[simp] theorem k11_0 : k11 0 = some [0, 1] := rfl
@[simp] theorem k11_1 : k11 1 = some [0, 1] := rfl
@[simp] theorem k11_2 : k11 2 = some [] := rfl
@[simp] theorem k11_3 : k11 3 = some [0, 1] := rfl
@[simp] theorem k11_4 : k11 4 = some [0, 1, 7] := rfl
@[simp] theorem k11_5 : k11 5 = some [0, 1, 7] := rfl
@[simp] theorem k11_6 : k11 6 = some [0, 1, 7] := rfl
@[simp] theorem k11_7 : k11 7 = some [1, 7, 8] := rfl
@[simp] theorem k11_8 : k11 8 = some [1, 7, 8, 9] := rfl
@[simp] theorem k11_9 : k11 9 = some [1] := rfl
@[simp] theorem k11_10 : k11 10 = some [7, 8] := rfl
@[simp] theorem k11_20000 : k11 20000 = some [0, 1, 7] := rfl
@[simp] theorem k11_20001 : k11 20001 = some [0, 1, 7] := rfl
@[simp] theorem k11_30000 : k11 30000 = none := rfl
@[simp] theorem k11_30001 : k11 30001 = none := rfl
@[simp] theorem k11_30002 : k11 30002 = none := rfl
@[simp] theorem k11_30003 : k11 30003 = none := rfl
@[simp] theorem k11_30004 : k11 30004 = none := rfl
@[simp] theorem k11_30005 : k11 30005 = none := rfl
@[simp] theorem k11_30006 : k11 30006 = none := rfl
@[simp] theorem k11_30007 : k11 30007 = none := rfl
@[simp] theorem k11_30008 : k11 30008 = none := rfl
@[simp] theorem k11_30009 : k11 30009 = none := rfl
@[simp] theorem k11_30010 : k11 30010 = none := rfl
@[simp] theorem k11_9999 : k11 9999 = some [4, 5, 6] := rfl
def k12 : Nat → Option (List Nat)
  | 0 => some [0, 1]
  | 1 => some [0, 1]
  | 2 => some []
  | 3 => some [0, 1]
  | 4 => some [0, 1, 7]
  | 5 => some [1, 7, 16, 17, 18]
  | 6 => some [1, 7, 16, 17, 18]
  | 7 => some [1, 7, 8, 9, 16, 17, 18]
  | 8 => some [1, 7, 8, 9, 16, 17, 18]
  | 9 => some [1, 7, 8, 9, 16, 17, 18]
  | 10 => some [1, 7, 8, 9, 16, 17, 18]
  | 11 => some [1]
  | 12 => some [1, 7, 8, 9, 16, 17, 18]
  | 13 => some [1, 7, 8]
  | 14 => some [1, 7, 16, 17, 18]
  | 15 => some [1]
  | 20000 => some [1]
  | 20001 => some [1, 7, 16, 17, 18]
  | 20002 => some [1, 7, 16, 17, 18]
  | 9999 => some [4, 5, 6]
  | _ => none
@[simp] theorem k12_0 : k12 0 = some [0, 1] := rfl
@[simp] theorem k12_1 : k12 1 = some [0, 1] := rfl
@[simp] theorem k12_2 : k12 2 = some [] := rfl
@[simp] theorem k12_3 : k12 3 = some [0, 1] := rfl
@[simp] theorem k12_4 : k12 4 = some [0, 1, 7] := rfl
@[simp] theorem k12_5 : k12 5 = some [1, 7, 16, 17, 18] := rfl
@[simp] theorem k12_6 : k12 6 = some [1, 7, 16, 17, 18] := rfl
@[simp] theorem k12_7 : k12 7 = some [1, 7, 8, 9, 16, 17, 18] := rfl
@[simp] theorem k12_8 : k12 8 = some [1, 7, 8, 9, 16, 17, 18] := rfl
@[simp] theorem k12_9 : k12 9 = some [1, 7, 8, 9, 16, 17, 18] := rfl
@[simp] theorem k12_10 : k12 10 = some [1, 7, 8, 9, 16, 17, 18] := rfl
@[simp] theorem k12_11 : k12 11 = some [1] := rfl
@[simp] theorem k12_12 : k12 12 = some [1, 7, 8, 9, 16, 17, 18] := rfl
@[simp] theorem k12_13 : k12 13 = some [1, 7, 8] := rfl
@[simp] theorem k12_14 : k12 14 = some [1, 7, 16, 17, 18] := rfl
@[simp] theorem k12_15 : k12 15 = some [1] := rfl
@[simp] theorem k12_20000 : k12 20000 = some [1] := rfl
@[simp] theorem k12_20001 : k12 20001 = some [1, 7, 16, 17, 18] := rfl
@[simp] theorem k12_20002 : k12 20002 = some [1, 7, 16, 17, 18] := rfl
@[simp] theorem k12_30000 : k12 30000 = none := rfl
@[simp] theorem k12_30001 : k12 30001 = none := rfl
@[simp] theorem k12_30002 : k12 30002 = none := rfl
@[simp] theorem k12_30003 : k12 30003 = none := rfl
@[simp] theorem k12_30004 : k12 30004 = none := rfl
@[simp] theorem k12_30005 : k12 30005 = none := rfl
@[simp] theorem k12_30006 : k12 30006 = none := rfl
@[simp] theorem k12_30007 : k12 30007 = none := rfl
@[simp] theorem k12_30008 : k12 30008 = none := rfl
@[simp] theorem k12_30009 : k12 30009 = none := rfl
@[simp] theorem k12_30010 : k12 30010 = none := rfl
@[simp] theorem k12_30011 : k12 30011 = none := rfl
@[simp] theorem k12_30012 : k12 30012 = none := rfl
@[simp] theorem k12_30013 : k12 30013 = none := rfl
@[simp] theorem k12_30014 : k12 30014 = none := rfl
@[simp] theorem k12_30015 : k12 30015 = none := rfl
@[simp] theorem k12_9999 : k12 9999 = some [4, 5, 6] := rfl
def k13 : Nat → Option (List Nat)
  | 0 => some [0, 1]
  | 1 => some [0, 1]
  | 2 => some []
  | 3 => some [0, 1]
  | 4 => some [0, 1, 7]
  | 5 => some [0, 1, 7, 8]
  | 6 => some [0, 1, 7, 8, 9]
  | 7 => some [0, 1, 7, 8, 9]
  | 8 => some [0, 1, 7, 8, 9]
  | 9 => some [0, 1, 7, 8, 9, 10]
  | 10 => some [0, 1, 7, 8, 9, 10]
  | 11 => some [0, 1, 7, 8, 9, 10]
  | 12 => some [1, 7, 9, 10]
  | 13 => some [1]
  | 14 => some [1, 7, 9]
  | 15 => some [1]
  | 20000 => some [1]
  | 20001 => some [0, 1, 7, 8, 9]
  | 9999 => some [4, 5, 6]
  | _ => none
@[simp] theorem k13_0 : k13 0 = some [0, 1] := rfl
@[simp] theorem k13_1 : k13 1 = some [0, 1] := rfl
@[simp] theorem k13_2 : k13 2 = some [] := rfl
@[simp] theorem k13_3 : k13 3 = some [0, 1] := rfl
@[simp] theorem k13_4 : k13 4 = some [0, 1, 7] := rfl
@[simp] theorem k13_5 : k13 5 = some [0, 1, 7, 8] := rfl
@[simp] theorem k13_6 : k13 6 = some [0, 1, 7, 8, 9] := rfl
@[simp] theorem k13_7 : k13 7 = some [0, 1, 7, 8, 9] := rfl
@[simp] theorem k13_8 : k13 8 = some [0, 1, 7, 8, 9] := rfl
@[simp] theorem k13_9 : k13 9 = some [0, 1, 7, 8, 9, 10] := rfl
@[simp] theorem k13_10 : k13 10 = some [0, 1, 7, 8, 9, 10] := rfl
@[simp] theorem k13_11 : k13 11 = some [0, 1, 7, 8, 9, 10] := rfl
@[simp] theorem k13_12 : k13 12 = some [1, 7, 9, 10] := rfl
@[simp] theorem k13_13 : k13 13 = some [1] := rfl
@[simp] theorem k13_14 : k13 14 = some [1, 7, 9] := rfl
@[simp] theorem k13_15 : k13 15 = some [1] := rfl
@[simp] theorem k13_20000 : k13 20000 = some [1] := rfl
@[simp] theorem k13_20001 : k13 20001 = some [0, 1, 7, 8, 9] := rfl
@[simp] theorem k13_30000 : k13 30000 = none := rfl
@[simp] theorem k13_30001 : k13 30001 = none := rfl
@[simp] theorem k13_30002 : k13 30002 = none := rfl
@[simp] theorem k13_30003 : k13 30003 = none := rfl
@[simp] theorem k13_30004 : k13 30004 = none := rfl
@[simp] theorem k13_30005 : k13 30005 = none := rfl
@[simp] theorem k13_30006 : k13 30006 = none := rfl
@[simp] theorem k13_30007 : k13 30007 = none := rfl
@[simp] theorem k13_30008 : k13 30008 = none := rfl
@[simp] theorem k13_30009 : k13 30009 = none := rfl
@[simp] theorem k13_30010 : k13 30010 = none := rfl
@[simp] theorem k13_30011 : k13 30011 = none := rfl
@[simp] theorem k13_30012 : k13 30012 = none := rfl
@[simp] theorem k13_30013 : k13 30013 = none := rfl
@[simp] theorem k13_30014 : k13 30014 = none := rfl
@[simp] theorem k13_30015 : k13 30015 = none := rfl
@[simp] theorem k13_9999 : k13 9999 = some [4, 5, 6] := rfl
def k14 : Nat → Option (List Nat)
  | 0 => some [0]
  | 1 => some [0]
  | 2 => some [0, 3]
  | 3 => some [0, 3, 9]
  | 4 => some [0, 3, 9, 10]
  | 5 => some [0, 3, 4, 5, 9]
  | 6 => some [0, 3, 5, 7, 9]
  | 7 => some []
  | 8 => some [0, 3, 9]
  | 9 => some [3]
  | 20000 => some [3]
  | 20001 => some [0, 3, 9]
  | 9999 => some [2]
  | _ => none
@[simp] theorem k14_0 : k14 0 = some [0] := rfl
@[simp] theorem k14_1 : k14 1 = some [0] := rfl
@[simp] theorem k14_2 : k14 2 = some [0, 3] := rfl
@[simp] theorem k14_3 : k14 3 = some [0, 3, 9] := rfl
@[simp] theorem k14_4 : k14 4 = some [0, 3, 9, 10] := rfl
@[simp] theorem k14_5 : k14 5 = some [0, 3, 4, 5, 9] := rfl
@[simp] theorem k14_6 : k14 6 = some [0, 3, 5, 7, 9] := rfl
@[simp] theorem k14_7 : k14 7 = some [] := rfl
@[simp] theorem k14_8 : k14 8 = some [0, 3, 9] := rfl
@[simp] theorem k14_9 : k14 9 = some [3] := rfl
@[simp] theorem k14_20000 : k14 20000 = some [3] := rfl
@[simp] theorem k14_20001 : k14 20001 = some [0, 3, 9] := rfl
@[simp] theorem k14_30000 : k14 30000 = none := rfl
@[simp] theorem k14_30001 : k14 30001 = none := rfl
@[simp] theorem k14_30002 : k14 30002 = none := rfl
@[simp] theorem k14_30003 : k14 30003 = none := rfl
@[simp] theorem k14_30004 : k14 30004 = none := rfl
@[simp] theorem k14_30005 : k14 30005 = none := rfl
@[simp] theorem k14_30006 : k14 30006 = none := rfl
@[simp] theorem k14_30007 : k14 30007 = none := rfl
@[simp] theorem k14_30008 : k14 30008 = none := rfl
@[simp] theorem k14_30009 : k14 30009 = none := rfl
@[simp] theorem k14_9999 : k14 9999 = some [2] := rfl
def k15 : Nat → Option (List Nat)
  | 0 => some [0]
  | 1 => some [0]
  | 2 => some [0, 3]
  | 3 => some [0, 3, 4]
  | 4 => some [0, 3, 4]
  | 5 => some [0, 3, 4, 5]
  | 6 => some []
  | 7 => some [0, 3, 4, 5]
  | 8 => some [0, 3, 4]
  | 9 => some [3]
  | 20000 => some [3]
  | 20001 => some [0, 3, 4]
  | 9999 => some [2]
  | _ => none
@[simp] theorem k15_0 : k15 0 = some [0] := rfl
@[simp] theorem k15_1 : k15 1 = some [0] := rfl
@[simp] theorem k15_2 : k15 2 = some [0, 3] := rfl
@[simp] theorem k15_3 : k15 3 = some [0, 3, 4] := rfl
@[simp] theorem k15_4 : k15 4 = some [0, 3, 4] := rfl
@[simp] theorem k15_5 : k15 5 = some [0, 3, 4, 5] := rfl
@[simp] theorem k15_6 : k15 6 = some [] := rfl
@[simp] theorem k15_7 : k15 7 = some [0, 3, 4, 5] := rfl
@[simp] theorem k15_8 : k15 8 = some [0, 3, 4] := rfl
@[simp] theorem k15_9 : k15 9 = some [3] := rfl
@[simp] theorem k15_20000 : k15 20000 = some [3] := rfl
@[simp] theorem k15_20001 : k15 20001 = some [0, 3, 4] := rfl
@[simp] theorem k15_30000 : k15 30000 = none := rfl
@[simp] theorem k15_30001 : k15 30001 = none := rfl
@[simp] theorem k15_30002 : k15 30002 = none := rfl
@[simp] theorem k15_30003 : k15 30003 = none := rfl
@[simp] theorem k15_30004 : k15 30004 = none := rfl
@[simp] theorem k15_30005 : k15 30005 = none := rfl
@[simp] theorem k15_30006 : k15 30006 = none := rfl
@[simp] theorem k15_30007 : k15 30007 = none := rfl
@[simp] theorem k15_30008 : k15 30008 = none := rfl
@[simp] theorem k15_30009 : k15 30009 = none := rfl
@[simp] theorem k15_9999 : k15 9999 = some [2] := rfl
def k16 : Nat → Option (List Nat)
  | 0 => some [0, 1]
  | 1 => some [0, 1]
  | 2 => some []
  | 3 => some [0, 1]
  | 4 => some [0, 1, 5]
  | 5 => some [0, 1, 5]
  | 6 => some [0, 1, 5]
  | 7 => some []
  | 8 => some []
  | 20000 => some []
  | 20001 => some [0, 1, 5]
  | 9999 => some [4]
  | _ => none
@[simp] theorem k16_0 : k16 0 = some [0, 1] := rfl
@[simp] theorem k16_1 : k16 1 = some [0, 1] := rfl
@[simp] theorem k16_2 : k16 2 = some [] := rfl
@[simp] theorem k16_3 : k16 3 = some [0, 1] := rfl
@[simp] theorem k16_4 : k16 4 = some [0, 1, 5] := rfl
@[simp] theorem k16_5 : k16 5 = some [0, 1, 5] := rfl
@[simp] theorem k16_6 : k16 6 = some [0, 1, 5] := rfl
@[simp] theorem k16_7 : k16 7 = some [] := rfl
@[simp] theorem k16_8 : k16 8 = some [] := rfl
@[simp] theorem k16_20000 : k16 20000 = some [] := rfl
@[simp] theorem k16_20001 : k16 20001 = some [0, 1, 5] := rfl
@[simp] theorem k16_30000 : k16 30000 = none := rfl
@[simp] theorem k16_30001 : k16 30001 = none := rfl
@[simp] theorem k16_30002 : k16 30002 = none := rfl
@[simp] theorem k16_30003 : k16 30003 = none := rfl
@[simp] theorem k16_30004 : k16 30004 = none := rfl
@[simp] theorem k16_30005 : k16 30005 = none := rfl
@[simp] theorem k16_30006 : k16 30006 = none := rfl
@[simp] theorem k16_30007 : k16 30007 = none := rfl
@[simp] theorem k16_30008 : k16 30008 = none := rfl
@[simp] theorem k16_9999 : k16 9999 = some [4] := rfl
def k17 : Nat → Option (List Nat)
  | 0 => some [0]
  | 1 => some [0]
  | 2 => some []
  | 3 => some [0]
  | 4 => some [0, 3]
  | 5 => some [0, 3]
  | 6 => some [0, 3]
  | 7 => some [0, 3]
  | 20000 => some [0, 3]
  | 20001 => some [0, 3]
  | 9999 => some [2]
  | _ => none
@[simp] theorem k17_0 : k17 0 = some [0] := rfl
@[simp] theorem k17_1 : k17 1 = some [0] := rfl
@[simp] theorem k17_2 : k17 2 = some [] := rfl
@[simp] theorem k17_3 : k17 3 = some [0] := rfl
@[simp] theorem k17_4 : k17 4 = some [0, 3] := rfl
@[simp] theorem k17_5 : k17 5 = some [0, 3] := rfl
@[simp] theorem k17_6 : k17 6 = some [0, 3] := rfl
@[simp] theorem k17_7 : k17 7 = some [0, 3] := rfl
@[simp] theorem k17_20000 : k17 20000 = some [0, 3] := rfl
@[simp] theorem k17_20001 : k17 20001 = some [0, 3] := rfl
@[simp] theorem k17_30000 : k17 30000 = none := rfl
@[simp] theorem k17_30001 : k17 30001 = none := rfl
@[simp] theorem k17_30002 : k17 30002 = none := rfl
@[simp] theorem k17_30003 : k17 30003 = none := rfl
@[simp] theorem k17_30004 : k17 30004 = none := rfl
@[simp] theorem k17_30005 : k17 30005 = none := rfl
@[simp] theorem k17_30006 : k17 30006 = none := rfl
@[simp] theorem k17_30007 : k17 30007 = none := rfl
@[simp] theorem k17_9999 : k17 9999 = some [2] := rfl
def k18 : Nat → Option (List Nat)
  | 0 => some [0]
  | 1 => some [0]
  | 2 => some []
  | 3 => some [0]
  | 4 => some [0, 3]
  | 5 => some [0, 3]
  | 6 => some [0, 3]
  | 7 => some [0, 3]
  | 20000 => some [0, 3]
  | 20001 => some [0, 3]
  | 9999 => some [2]
  | _ => none
@[simp] theorem k18_0 : k18 0 = some [0] := rfl
@[simp] theorem k18_1 : k18 1 = some [0] := rfl
@[simp] theorem k18_2 : k18 2 = some [] := rfl
@[simp] theorem k18_3 : k18 3 = some [0] := rfl
@[simp] theorem k18_4 : k18 4 = some [0, 3] := rfl
@[simp] theorem k18_5 : k18 5 = some [0, 3] := rfl
@[simp] theorem k18_6 : k18 6 = some [0, 3] := rfl
@[simp] theorem k18_7 : k18 7 = some [0, 3] := rfl
@[simp] theorem k18_20000 : k18 20000 = some [0, 3] := rfl
@[simp] theorem k18_20001 : k18 20001 = some [0, 3] := rfl
@[simp] theorem k18_30000 : k18 30000 = none := rfl
@[simp] theorem k18_30001 : k18 30001 = none := rfl
@[simp] theorem k18_30002 : k18 30002 = none := rfl
@[simp] theorem k18_30003 : k18 30003 = none := rfl
@[simp] theorem k18_30004 : k18 30004 = none := rfl
@[simp] theorem k18_30005 : k18 30005 = none := rfl
@[simp] theorem k18_30006 : k18 30006 = none := rfl
@[simp] theorem k18_30007 : k18 30007 = none := rfl
@[simp] theorem k18_9999 : k18 9999 = some [2] := rfl
def k19 : Nat → Option (List Nat)
  | 0 => some [0, 1, 2]
  | 1 => some [0, 1, 2]
  | 2 => some []
  | 3 => some [0, 1, 2]
  | 4 => some [0, 1, 2, 9, 10]
  | 5 => some [1, 10, 11, 12, 13]
  | 6 => some [11, 12, 13]
  | 7 => some [1, 11, 12, 13]
  | 8 => some [1]
  | 9 => some [1, 11, 12, 13]
  | 10 => some [1, 13]
  | 11 => some [11, 12]
  | 20000 => some [11, 12]
  | 9999 => some [6, 7, 8]
  | _ => none
@[simp] theorem k19_0 : k19 0 = some [0, 1, 2] := rfl
@[simp] theorem k19_1 : k19 1 = some [0, 1, 2] := rfl
@[simp] theorem k19_2 : k19 2 = some [] := rfl
@[simp] theorem k19_3 : k19 3 = some [0, 1, 2] := rfl
@[simp] theorem k19_4 : k19 4 = some [0, 1, 2, 9, 10] := rfl
@[simp] theorem k19_5 : k19 5 = some [1, 10, 11, 12, 13] := rfl
@[simp] theorem k19_6 : k19 6 = some [11, 12, 13] := rfl
@[simp] theorem k19_7 : k19 7 = some [1, 11, 12, 13] := rfl
@[simp] theorem k19_8 : k19 8 = some [1] := rfl
@[simp] theorem k19_9 : k19 9 = some [1, 11, 12, 13] := rfl
@[simp] theorem k19_10 : k19 10 = some [1, 13] := rfl
@[simp] theorem k19_11 : k19 11 = some [11, 12] := rfl
@[simp] theorem k19_20000 : k19 20000 = some [11, 12] := rfl
@[simp] theorem k19_30000 : k19 30000 = none := rfl
@[simp] theorem k19_30001 : k19 30001 = none := rfl
@[simp] theorem k19_30002 : k19 30002 = none := rfl
@[simp] theorem k19_30003 : k19 30003 = none := rfl
@[simp] theorem k19_30004 : k19 30004 = none := rfl
@[simp] theorem k19_30005 : k19 30005 = none := rfl
@[simp] theorem k19_30006 : k19 30006 = none := rfl
@[simp] theorem k19_30007 : k19 30007 = none := rfl
@[simp] theorem k19_30008 : k19 30008 = none := rfl
@[simp] theorem k19_30009 : k19 30009 = none := rfl
@[simp] theorem k19_30010 : k19 30010 = none := rfl
@[simp] theorem k19_30011 : k19 30011 = none := rfl
@[simp] theorem k19_9999 : k19 9999 = some [6, 7, 8] := rfl
def k20 : Nat → Option (List Nat)
  | 0 => some [0, 1, 2]
  | 1 => some [0, 1, 2]
  | 2 => some []
  | 3 => some [0, 1, 2]
  | 4 => some [0, 1, 2, 9]
  | 5 => some [1]
  | 6 => some [0, 1, 2, 9]
  | 7 => some [1]
  | 8 => some [0, 1, 9]
  | 20000 => some [0, 1, 9]
  | 9999 => some [6, 7, 8]
  | _ => none
@[simp] theorem k20_0 : k20 0 = some [0, 1, 2] := rfl
@[simp] theorem k20_1 : k20 1 = some [0, 1, 2] := rfl
@[simp] theorem k20_2 : k20 2 = some [] := rfl
@[simp] theorem k20_3 : k20 3 = some [0, 1, 2] := rfl
@[simp] theorem k20_4 : k20 4 = some [0, 1, 2, 9] := rfl
@[simp] theorem k20_5 : k20 5 = some [1] := rfl
@[simp] theorem k20_6 : k20 6 = some [0, 1, 2, 9] := rfl
@[simp] theorem k20_7 : k20 7 = some [1] := rfl
@[simp] theorem k20_8 : k20 8 = some [0, 1, 9] := rfl
@[simp] theorem k20_20000 : k20 20000 = some [0, 1, 9] := rfl
@[simp] theorem k20_30000 : k20 30000 = none := rfl
@[simp] theorem k20_30001 : k20 30001 = none := rfl
@[simp] theorem k20_30002 : k20 30002 = none := rfl
@[simp] theorem k20_30003 : k20 30003 = none := rfl
@[simp] theorem k20_30004 : k20 30004 = none := rfl
@[simp] theorem k20_30005 : k20 30005 = none := rfl
@[simp] theorem k20_30006 : k20 30006 = none := rfl
@[simp] theorem k20_30007 : k20 30007 = none := rfl
@[simp] theorem k20_30008 : k20 30008 = none := rfl
@[simp] theorem k20_9999 : k20 9999 = some [6, 7, 8] := rfl
def k21 : Nat → Option (List Nat)
  | 0 => some [0]
  | 1 => some [0]
  | 2 => some [0, 3]
  | 3 => some [0, 3]
  | 4 => some [0, 3]
  | 5 => some [0, 3]
  | 20000 => some [0, 3]
  | 20001 => some [0, 3]
  | 9999 => some [2]
  | _ => none
@[simp] theorem k21_0 : k21 0 = some [0] := rfl
@[simp] theorem k21_1 : k21 1 = some [0] := rfl
@[simp] theorem k21_2 : k21 2 = some [0, 3] := rfl
@[simp] theorem k21_3 : k21 3 = some [0, 3] := rfl
@[simp] theorem k21_4 : k21 4 = some [0, 3] := rfl
@[simp] theorem k21_5 : k21 5 = some [0, 3] := rfl
@[simp] theorem k21_20000 : k21 20000 = some [0, 3] := rfl
@[simp] theorem k21_20001 : k21 20001 = some [0, 3] := rfl
@[simp] theorem k21_30000 : k21 30000 = none := rfl
@[simp] theorem k21_30001 : k21 30001 = none := rfl
@[simp] theorem k21_30002 : k21 30002 = none := rfl
@[simp] theorem k21_30003 : k21 30003 = none := rfl
@[simp] theorem k21_30004 : k21 30004 = none := rfl
@[simp] theorem k21_30005 : k21 30005 = none := rfl
@[simp] theorem k21_9999 : k21 9999 = some [2] := rfl
def k22 : Nat → Option (List Nat)
  | 0 => some [0, 1, 2]
  | 1 => some [0, 1, 2]
  | 2 => some []
  | 3 => some [0, 1, 2]
  | 4 => some [0, 1, 2, 9]
  | 5 => some [1]
  | 6 => some [0, 1, 2, 9]
  | 7 => some [0, 1, 2, 9, 10]
  | 8 => some [1, 2, 9, 10, 40, 41, 42]
  | 9 => some [1, 2, 9, 10, 40, 41, 42]
  | 10 => some [1, 2, 9, 10, 12, 40, 41, 42]
  | 11 => some [1, 2, 9, 10, 40, 41, 42]
  | 12 => some [1]
  | 13 => some [1, 2, 9, 10, 40, 41, 42]
  | 14 => some [9, 10]
  | 20000 => some [9, 10]
  | 20001 => some [1, 2, 9, 10, 40, 41, 42]
  | 9999 => some [6, 7, 8]
  | _ => none
@[simp] theorem k22_0 : k22 0 = some [0, 1, 2] := rfl
@[simp] theorem k22_1 : k22 1 = some [0, 1, 2] := rfl
@[simp] theorem k22_2 : k22 2 = some [] := rfl
@[simp] theorem k22_3 : k22 3 = some [0, 1, 2] := rfl
@[simp] theorem k22_4 : k22 4 = some [0, 1, 2, 9] := rfl
@[simp] theorem k22_5 : k22 5 = some [1] := rfl
@[simp] theorem k22_6 : k22 6 = some [0, 1, 2, 9] := rfl
@[simp] theorem k22_7 : k22 7 = some [0, 1, 2, 9, 10] := rfl
@[simp] theorem k22_8 : k22 8 = some [1, 2, 9, 10, 40, 41, 42] := rfl
@[simp] theorem k22_9 : k22 9 = some [1, 2, 9, 10, 40, 41, 42] := rfl
@[simp] theorem k22_10 : k22 10 = some [1, 2, 9, 10, 12, 40, 41, 42] := rfl
@[simp] theorem k22_11 : k22 11 = some [1, 2, 9, 10, 40, 41, 42] := rfl
@[simp] theorem k22_12 : k22 12 = some [1] := rfl
@[simp] theorem k22_13 : k22 13 = some [1, 2, 9, 10, 40, 41, 42] := rfl
@[simp] theorem k22_14 : k22 14 = some [9, 10] := rfl
@[simp] theorem k22_20000 : k22 20000 = some [9, 10] := rfl
@[simp] theorem k22_20001 : k22 20001 = some [1, 2, 9, 10, 40, 41, 42] := rfl
@[simp] theorem k22_30000 : k22 30000 = none := rfl
@[simp] theorem k22_30001 : k22 30001 = none := rfl
@[simp] theorem k22_30002 : k22 30002 = none := rfl
@[simp] theorem k22_30003 : k22 30003 = none := rfl
@[simp] theorem k22_30004 : k22 30004 = none := rfl
@[simp] theorem k22_30005 : k22 30005 = none := rfl
@[simp] theorem k22_30006 : k22 30006 = none := rfl
@[simp] theorem k22_30007 : k22 30007 = none := rfl
@[simp] theorem k22_30008 : k22 30008 = none := rfl
@[simp] theorem k22_30009 : k22 30009 = none := rfl
@[simp] theorem k22_30010 : k22 30010 = none := rfl
@[simp] theorem k22_30011 : k22 30011 = none := rfl
@[simp] theorem k22_30012 : k22 30012 = none := rfl
@[simp] theorem k22_30013 : k22 30013 = none := rfl
@[simp] theorem k22_30014 : k22 30014 = none := rfl
@[simp] theorem k22_9999 : k22 9999 = some [6, 7, 8] := rfl
def k23 : Nat → Option (List Nat)
  | 0 => some [0, 1, 2]
  | 1 => some [0, 1, 2]
  | 2 => some []
  | 3 => some [0, 1, 2]
  | 4 => some [1]
  | 5 => some [1, 2]
  | 9999 => some [6, 7]
  | _ => none
@[simp] theorem k23_0 : k23 0 = some [0, 1, 2] := rfl
@[simp] theorem k23_1 : k23 1 = some [0, 1, 2] := rfl
@[simp] theorem k23_2 : k23 2 = some [] := rfl
@[simp] theorem k23_3 : k23 3 = some [0, 1, 2] := rfl
@[simp] theorem k23_4 : k23 4 = some [1] := rfl
@[simp] theorem k23_5 : k23 5 = some [1, 2] := rfl
@[simp] theorem k23_30000 : k23 30000 = none := rfl
@[simp] theorem k23_30001 : k23 30001 = none := rfl
@[simp] theorem k23_30002 : k23 30002 = none := rfl
@[simp] theorem k23_30003 : k23 30003 = none := rfl
@[simp] theorem k23_30004 : k23 30004 = none := rfl
@[simp] theorem k23_30005 : k23 30005 = none := rfl
@[simp] theorem k23_9999 : k23 9999 = some [6, 7] := rfl
def k24 : Nat → Option (List Nat)
  | 0 => some [0, 1]
  | 1 => some [0, 1]
  | 9999 => some [4]
  | _ => none
@[simp] theorem k24_0 : k24 0 = some [0, 1] := rfl
@[simp] theorem k24_1 : k24 1 = some [0, 1] := rfl
@[simp] theorem k24_30000 : k24 30000 = none := rfl
@[simp] theorem k24_30001 : k24 30001 = none := rfl
@[simp] theorem k24_9999 : k24 9999 = some [4] := rfl
def k25 : Nat → Option (List Nat)
  | 0 => some [0, 1]
  | 1 => some [0, 1]
  | 9999 => some [4, 5, 6]
  | _ => none
@[simp] theorem k25_0 : k25 0 = some [0, 1] := rfl
@[simp] theorem k25_1 : k25 1 = some [0, 1] := rfl
@[simp] theorem k25_30000 : k25 30000 = none := rfl
@[simp] theorem k25_30001 : k25 30001 = none := rfl
@[simp] theorem k25_9999 : k25 9999 = some [4, 5, 6] := rfl
def k26 : Nat → Option (List Nat)
  | 0 => some [0]
  | 1 => some [0]
  | 2 => some [0]
  | 3 => some [0]
  | 9999 => some [2, 3]
  | _ => none
@[simp] theorem k26_0 : k26 0 = some [0] := rfl
@[simp] theorem k26_1 : k26 1 = some [0] := rfl
@[simp] theorem k26_2 : k26 2 = some [0] := rfl
@[simp] theorem k26_3 : k26 3 = some [0] := rfl
@[simp] theorem k26_30000 : k26 30000 = none := rfl
@[simp] theorem k26_30001 : k26 30001 = none := rfl
@[simp] theorem k26_30002 : k26 30002 = none := rfl
@[simp] theorem k26_30003 : k26 30003 = none := rfl
@[simp] theorem k26_9999 : k26 9999 = some [2, 3] := rfl
def k27 : Nat → Option (List Nat)
  | 0 => some [0, 1]
  | 1 => some [0, 1]
  | 2 => some [0, 1, 5]
  | 3 => some [0, 1, 5, 6]
  | 4 => some [0, 1, 5, 6, 7]
  | 5 => some [0, 1, 6]
  | 6 => some [0, 1, 5, 6]
  | 7 => some [0, 1, 5, 6]
  | 8 => some [0, 1, 5, 6, 7]
  | 9 => some [0, 1, 6]
  | 10 => some [0, 1, 5, 6]
  | 11 => some [0, 1, 5, 6]
  | 12 => some [0, 1, 5, 6, 7]
  | 13 => some [0, 1, 6]
  | 14 => some [0, 1, 5, 6]
  | 15 => some [0, 1, 5, 6]
  | 16 => some [0, 1, 5, 6, 7]
  | 17 => some []
  | 18 => some [0, 1, 5, 6, 7]
  | 19 => some [0, 1, 5, 6, 7, 8]
  | 20 => some [0, 1, 5, 6, 7, 8]
  | 21 => some [0, 1, 5, 6, 7, 8]
  | 22 => some []
  | 23 => some [0, 1, 5, 6, 7, 8]
  | 24 => some [5, 6, 7]
  | 25 => some []
  | 26 => some [5]
  | 20000 => some [5, 6, 7]
  | 20001 => some [0, 1, 5, 6, 7, 8]
  | 9999 => some [4]
  | _ => none
@[simp] theorem k27_0 : k27 0 = some [0, 1] := rfl
@[simp] theorem k27_1 : k27 1 = some [0, 1] := rfl
@[simp] theorem k27_2 : k27 2 = some [0, 1, 5] := rfl
@[simp] theorem k27_3 : k27 3 = some [0, 1, 5, 6] := rfl
@[simp] theorem k27_4 : k27 4 = some [0, 1, 5, 6, 7] := rfl
@[simp] theorem k27_5 : k27 5 = some [0, 1, 6] := rfl
@[simp] theorem k27_6 : k27 6 = some [0, 1, 5, 6] := rfl
@[simp] theorem k27_7 : k27 7 = some [0, 1, 5, 6] := rfl
@[simp] theorem k27_8 : k27 8 = some [0, 1, 5, 6, 7] := rfl
@[simp] theorem k27_9 : k27 9 = some [0, 1, 6] := rfl
@[simp] theorem k27_10 : k27 10 = some [0, 1, 5, 6] := rfl
@[simp] theorem k27_11 : k27 11 = some [0, 1, 5, 6] := rfl
@[simp] theorem k27_12 : k27 12 = some [0, 1, 5, 6, 7] := rfl
@[simp] theorem k27_13 : k27 13 = some [0, 1, 6] := rfl
@[simp] theorem k27_14 : k27 14 = some [0, 1, 5, 6] := rfl
@[simp] theorem k27_15 : k27 15 = some [0, 1, 5, 6] := rfl
@[simp] theorem k27_16 : k27 16 = some [0, 1, 5, 6, 7] := rfl
@[simp] theorem k27_17 : k27 17 = some [] := rfl
@[simp] theorem k27_18 : k27 18 = some [0, 1, 5, 6, 7] := rfl
@[simp] theorem k27_19 : k27 19 = some [0, 1, 5, 6, 7, 8] := rfl
@[simp] theorem k27_20 : k27 20 = some [0, 1, 5, 6, 7, 8] := rfl
@[simp] theorem k27_21 : k27 21 = some [0, 1, 5, 6, 7, 8] := rfl
@[simp] theorem k27_22 : k27 22 = some [] := rfl
@[simp] theorem k27_23 : k27 23 = some [0, 1, 5, 6, 7, 8] := rfl
@[simp] theorem k27_24 : k27 24 = some [5, 6, 7] := rfl
@[simp] theorem k27_25 : k27 25 = some [] := rfl
@[simp] theorem k27_26 : k27 26 = some [5] := rfl
@[simp] theorem k27_20000 : k27 20000 = some [5, 6, 7] := rfl
@[simp] theorem k27_20001 : k27 20001 = some [0, 1, 5, 6, 7, 8] := rfl
@[simp] theorem k27_30000 : k27 30000 = none := rfl
@[simp] theorem k27_30001 : k27 30001 = none := rfl
@[simp] theorem k27_30002 : k27 30002 = none := rfl
@[simp] theorem k27_30003 : k27 30003 = none := rfl
@[simp] theorem k27_30004 : k27 30004 = none := rfl
@[simp] theorem k27_30005 : k27 30005 = none := rfl
@[simp] theorem k27_30006 : k27 30006 = none := rfl
@[simp] theorem k27_30007 : k27 30007 = none := rfl
@[simp] theorem k27_30008 : k27 30008 = none := rfl
@[simp] theorem k27_30009 : k27 30009 = none := rfl
@[simp] theorem k27_30010 : k27 30010 = none := rfl
@[simp] theorem k27_30011 : k27 30011 = none := rfl
@[simp] theorem k27_30012 : k27 30012 = none := rfl
@[simp] theorem k27_30013 : k27 30013 = none := rfl
@[simp] theorem k27_30014 : k27 30014 = none := rfl
@[simp] theorem k27_30015 : k27 30015 = none := rfl
@[simp] theorem k27_30016 : k27 30016 = none := rfl
@[simp] theorem k27_30017 : k27 30017 = none := rfl
@[simp] theorem k27_30018 : k27 30018 = none := rfl
@[simp] theorem k27_30019 : k27 30019 = none := rfl
@[simp] theorem k27_30020 : k27 30020 = none := rfl
@[simp] theorem k27_30021 : k27 30021 = none := rfl
@[simp] theorem k27_30022 : k27 30022 = none := rfl
@[simp] theorem k27_30023 : k27 30023 = none := rfl
@[simp] theorem k27_30024 : k27 30024 = none := rfl
@[simp] theorem k27_30025 : k27 30025 = none := rfl
@[simp] theorem k27_30026 : k27 30026 = none := rfl
@[simp] theorem k27_9999 : k27 9999 = some [4] := rfl
def k28 : Nat → Option (List Nat)
  | 0 => some [0, 1, 2]
  | 1 => some [0, 1, 5]
  | 2 => some [0, 1, 7]
  | 3 => some [0]
  | 4 => some [1, 7]
  | 9999 => some [6]
  | _ => none
@[simp] theorem k28_0 : k28 0 = some [0, 1, 2] := rfl
@[simp] theorem k28_1 : k28 1 = some [0, 1, 5] := rfl
@[simp] theorem k28_2 : k28 2 = some [0, 1, 7] := rfl
@[simp] theorem k28_3 : k28 3 = some [0] := rfl
@[simp] theorem k28_4 : k28 4 = some [1, 7] := rfl
@[simp] theorem k28_30000 : k28 30000 = none := rfl
@[simp] theorem k28_30001 : k28 30001 = none := rfl
@[simp] theorem k28_30002 : k28 30002 = none := rfl
@[simp] theorem k28_30003 : k28 30003 = none := rfl
@[simp] theorem k28_30004 : k28 30004 = none := rfl
@[simp] theorem k28_9999 : k28 9999 = some [6] := rfl
def k29 : Nat → Option (List Nat)
  | 0 => some [0]
  | 1 => some [0]
  | 9999 => some [2]
  | _ => none
@[simp] theorem k29_0 : k29 0 = some [0] := rfl
@[simp] theorem k29_1 : k29 1 = some [0] := rfl
@[simp] theorem k29_30000 : k29 30000 = none := rfl
@[simp] theorem k29_30001 : k29 30001 = none := rfl
@[simp] theorem k29_9999 : k29 9999 = some [2] := rfl
def k30 : Nat → Option (List Nat)
  | 0 => some [0]
  | 1 => some [0]
  | 9999 => some [2]
  | _ => none
@[simp] theorem k30_0 : k30 0 = some [0] := rfl
@[simp] theorem k30_1 : k30 1 = some [0] := rfl
@[simp] theorem k30_30000 : k30 30000 = none := rfl
@[simp] theorem k30_30001 : k30 30001 = none := rfl
@[simp] theorem k30_9999 : k30 9999 = some [2] := rfl
def k31 : Nat → Option (List Nat)
  | 0 => some [0, 1]
  | 1 => some [0, 1]
  | 9999 => some [4]
  | _ => none
@[simp] theorem k31_0 : k31 0 = some [0, 1] := rfl
@[simp] theorem k31_1 : k31 1 = some [0, 1] := rfl
@[simp] theorem k31_30000 : k31 30000 = none := rfl
@[simp] theorem k31_30001 : k31 30001 = none := rfl
@[simp] theorem k31_9999 : k31 9999 = some [4] := rfl
def k32 : Nat → Option (List Nat)
  | 0 => some [0, 1]
  | 1 => some [0, 1]
  | 2 => some [0, 1, 7]
  | 3 => some [0, 1, 7]
  | 4 => some [0]
  | 9999 => some [4, 5, 6]
  | _ => none
@[simp] theorem k32_0 : k32 0 = some [0, 1] := rfl
@[simp] theorem k32_1 : k32 1 = some [0, 1] := rfl
@[simp] theorem k32_2 : k32 2 = some [0, 1, 7] := rfl
@[simp] theorem k32_3 : k32 3 = some [0, 1, 7] := rfl
@[simp] theorem k32_4 : k32 4 = some [0] := rfl
@[simp] theorem k32_30000 : k32 30000 = none := rfl
@[simp] theorem k32_30001 : k32 30001 = none := rfl
@[simp] theorem k32_30002 : k32 30002 = none := rfl
@[simp] theorem k32_30003 : k32 30003 = none := rfl
@[simp] theorem k32_30004 : k32 30004 = none := rfl
@[simp] theorem k32_9999 : k32 9999 = some [4, 5, 6] := rfl
def k33 : Nat → Option (List Nat)
  | 0 => some [0]
  | 1 => some [0]
  | 2 => some [0, 4]
  | 3 => some []
  | 4 => some [0, 4]
  | 5 => some [0, 4, 5]
  | 6 => some [0, 4, 5, 6]
  | 7 => some [0, 6]
  | 8 => some [0, 7]
  | 9 => some [0, 4, 5, 6]
  | 10 => some [0, 4, 5, 6, 8]
  | 11 => some [0, 4, 5, 8, 9]
  | 12 => some []
  | 13 => some [0, 5, 8, 9]
  | 14 => some [0, 5, 8, 9, 10]
  | 15 => some []
  | 16 => some [0, 5, 8, 10]
  | 17 => some [5, 10]
  | 18 => some [0, 5, 8, 10]
  | 19 => some [0, 5, 8, 10, 11]
  | 20 => some []
  | 21 => some [0, 5, 8, 10, 11]
  | 22 => some [5, 10, 11]
  | 23 => some [0, 5, 10, 11]
  | 24 => some [5, 10, 11, 12]
  | 25 => some []
  | 26 => some [5, 10, 11, 12]
  | 9999 => some [2, 3]
  | _ => none
@[simp] theorem k33_0 : k33 0 = some [0] := rfl
@[simp] theorem k33_1 : k33 1 = some [0] := rfl
@[simp] theorem k33_2 : k33 2 = some [0, 4] := rfl
@[simp] theorem k33_3 : k33 3 = some [] := rfl
@[simp] theorem k33_4 : k33 4 = some [0, 4] := rfl
@[simp] theorem k33_5 : k33 5 = some [0, 4, 5] := rfl
@[simp] theorem k33_6 : k33 6 = some [0, 4, 5, 6] := rfl
@[simp] theorem k33_7 : k33 7 = some [0, 6] := rfl
@[simp] theorem k33_8 : k33 8 = some [0, 7] := rfl
@[simp] theorem k33_9 : k33 9 = some [0, 4, 5, 6] := rfl
@[simp] theorem k33_10 : k33 10 = some [0, 4, 5, 6, 8] := rfl
@[simp] theorem k33_11 : k33 11 = some [0, 4, 5, 8, 9] := rfl
@[simp] theorem k33_12 : k33 12 = some [] := rfl
@[simp] theorem k33_13 : k33 13 = some [0, 5, 8, 9] := rfl
@[simp] theorem k33_14 : k33 14 = some [0, 5, 8, 9, 10] := rfl
@[simp] theorem k33_15 : k33 15 = some [] := rfl
@[simp] theorem k33_16 : k33 16 = some [0, 5, 8, 10] := rfl
@[simp] theorem k33_17 : k33 17 = some [5, 10] := rfl
@[simp] theorem k33_18 : k33 18 = some [0, 5, 8, 10] := rfl
@[simp] theorem k33_19 : k33 19 = some [0, 5, 8, 10, 11] := rfl
@[simp] theorem k33_20 : k33 20 = some [] := rfl
@[simp] theorem k33_21 : k33 21 = some [0, 5, 8, 10, 11] := rfl
@[simp] theorem k33_22 : k33 22 = some [5, 10, 11] := rfl
@[simp] theorem k33_23 : k33 23 = some [0, 5, 10, 11] := rfl
@[simp] theorem k33_24 : k33 24 = some [5, 10, 11, 12] := rfl
@[simp] theorem k33_25 : k33 25 = some [] := rfl
@[simp] theorem k33_26 : k33 26 = some [5, 10, 11, 12] := rfl
@[simp] theorem k33_30000 : k33 30000 = none := rfl
@[simp] theorem k33_30001 : k33 30001 = none := rfl
@[simp] theorem k33_30002 : k33 30002 = none := rfl
@[simp] theorem k33_30003 : k33 30003 = none := rfl
@[simp] theorem k33_30004 : k33 30004 = none := rfl
@[simp] theorem k33_30005 : k33 30005 = none := rfl
@[simp] theorem k33_30006 : k33 30006 = none := rfl
@[simp] theorem k33_30007 : k33 30007 = none := rfl
@[simp] theorem k33_30008 : k33 30008 = none := rfl
@[simp] theorem k33_30009 : k33 30009 = none := rfl
@[simp] theorem k33_30010 : k33 30010 = none := rfl
@[simp] theorem k33_30011 : k33 30011 = none := rfl
@[simp] theorem k33_30012 : k33 30012 = none := rfl
@[simp] theorem k33_30013 : k33 30013 = none := rfl
@[simp] theorem k33_30014 : k33 30014 = none := rfl
@[simp] theorem k33_30015 : k33 30015 = none := rfl
@[simp] theorem k33_30016 : k33 30016 = none := rfl
@[simp] theorem k33_30017 : k33 30017 = none := rfl
@[simp] theorem k33_30018 : k33 30018 = none := rfl
@[simp] theorem k33_30019 : k33 30019 = none := rfl
@[simp] theorem k33_30020 : k33 30020 = none := rfl
@[simp] theorem k33_30021 : k33 30021 = none := rfl
@[simp] theorem k33_30022 : k33 30022 = none := rfl
@[simp] theorem k33_30023 : k33 30023 = none := rfl
@[simp] theorem k33_30024 : k33 30024 = none := rfl
@[simp] theorem k33_30025 : k33 30025 = none := rfl
@[simp] theorem k33_30026 : k33 30026 = none := rfl
@[simp] theorem k33_9999 : k33 9999 = some [2, 3] := rfl
def k34 : Nat → Option (List Nat)
  | 0 => some [0, 1]
  | 1 => some [0, 1]
  | 9999 => some [4]
  | _ => none
@[simp] theorem k34_0 : k34 0 = some [0, 1] := rfl
@[simp] theorem k34_1 : k34 1 = some [0, 1] := rfl
@[simp] theorem k34_30000 : k34 30000 = none := rfl
@[simp] theorem k34_30001 : k34 30001 = none := rfl
@[simp] theorem k34_9999 : k34 9999 = some [4] := rfl
def k35 : Nat → Option (List Nat)
  | 0 => some [0, 1]
  | 1 => some [0, 1]
  | 9999 => some [3]
  | _ => none
@[simp] theorem k35_0 : k35 0 = some [0, 1] := rfl
@[simp] theorem k35_1 : k35 1 = some [0, 1] := rfl
@[simp] theorem k35_30000 : k35 30000 = none := rfl
@[simp] theorem k35_30001 : k35 30001 = none := rfl
@[simp] theorem k35_9999 : k35 9999 = some [3] := rfl
def k36 : Nat → Option (List Nat)
  | 0 => some [0, 1]
  | 1 => some [0, 1]
  | 9999 => some [4]
  | _ => none
@[simp] theorem k36_0 : k36 0 = some [0, 1] := rfl
@[simp] theorem k36_1 : k36 1 = some [0, 1] := rfl
@[simp] theorem k36_30000 : k36 30000 = none := rfl
@[simp] theorem k36_30001 : k36 30001 = none := rfl
@[simp] theorem k36_9999 : k36 9999 = some [4] := rfl
def k37 : Nat → Option (List Nat)
  | 0 => some [0, 1]
  | 1 => some [0, 1]
  | 2 => some [0, 1, 5]
  | 3 => some []
  | 4 => some [0, 1, 5]
  | 5 => some [0, 1]
  | 6 => some [0, 1, 5]
  | 7 => some []
  | 8 => some [0, 1, 5]
  | 9 => some [0, 1]
  | 10 => some [0, 1, 5]
  | 11 => some [0, 1, 5, 6]
  | 12 => some [0, 1, 5, 6, 7]
  | 13 => some [0, 1, 5, 6, 7, 8]
  | 14 => some [0, 1, 5, 6, 7, 8, 9]
  | 15 => some [0, 1, 5, 6, 7, 8, 9, 10]
  | 16 => some [0, 1, 5, 6, 7, 8, 9, 10]
  | 17 => some [0, 1, 5, 6, 7, 8, 9, 10]
  | 18 => some [0, 1, 5, 6, 7, 8, 9, 10, 11]
  | 19 => some []
  | 20 => some [0, 1, 5, 6, 7, 8, 9, 10, 11]
  | 21 => some [0, 1, 5, 6, 7, 8, 9, 10]
  | 22 => some [8]
  | 23 => some [0, 1, 5, 6, 7, 8, 9, 10]
  | 24 => some [0, 1, 5, 6, 7, 8, 9, 10]
  | 25 => some [0, 1, 5, 6, 7, 8, 9, 10]
  | 26 => some [0, 1, 8]
  | 27 => some [8, 12]
  | 28 => some [8, 12]
  | 29 => some []
  | 30 => some [0, 1, 5, 6, 7, 8, 9, 10]
  | 31 => some [0, 1, 8]
  | 32 => some [8, 13]
  | 33 => some []
  | 34 => some [8, 13]
  | 35 => some []
  | 20000 => some [0, 1, 5]
  | 20001 => some []
  | 20002 => some [0, 1, 5, 6, 7, 8, 9, 10]
  | 9999 => some [4]
  | _ => none
@[simp] theorem k37_0 : k37 0 = some [0, 1] := rfl
@[simp] theorem k37_1 : k37 1 = some [0, 1] := rfl
@[simp] theorem k37_2 : k37 2 = some [0, 1, 5] := rfl
@[simp] theorem k37_3 : k37 3 = some [] := rfl
@[simp] theorem k37_4 : k37 4 = some [0, 1, 5] := rfl
@[simp] theorem k37_5 : k37 5 = some [0, 1] := rfl
@[simp] theorem k37_6 : k37 6 = some [0, 1, 5] := rfl
@[simp] theorem k37_7 : k37 7 = some [] := rfl
@[simp] theorem k37_8 : k37 8 = some [0, 1, 5] := rfl
@[simp] theorem k37_9 : k37 9 = some [0, 1] := rfl
@[simp] theorem k37_10 : k37 10 = some [0, 1, 5] := rfl
@[simp] theorem k37_11 : k37 11 = some [0, 1, 5, 6] := rfl
@[simp] theorem k37_12 : k37 12 = some [0, 1, 5, 6, 7] := rfl
@[simp] theorem k37_13 : k37 13 = some [0, 1, 5, 6, 7, 8] := rfl
@[simp] theorem k37_14 : k37 14 = some [0, 1, 5, 6, 7, 8, 9] := rfl
@[simp] theorem k37_15 : k37 15 = some [0, 1, 5, 6, 7, 8, 9, 10] := rfl
@[simp] theorem k37_16 : k37 16 = some [0, 1, 5, 6, 7, 8, 9, 10] := rfl
@[simp] theorem k37_17 : k37 17 = some [0, 1, 5, 6, 7, 8, 9, 10] := rfl
@[simp] theorem k37_18 : k37 18 = some [0, 1, 5, 6, 7, 8, 9, 10, 11] := rfl
@[simp] theorem k37_19 : k37 19 = some [] := rfl
@[simp] theorem k37_20 : k37 20 = some [0, 1, 5, 6, 7, 8, 9, 10, 11] := rfl
@[simp] theorem k37_21 : k37 21 = some [0, 1, 5, 6, 7, 8, 9, 10] := rfl
@[simp] theorem k37_22 : k37 22 = some [8] := rfl
@[simp] theorem k37_23 : k37 23 = some [0, 1, 5, 6, 7, 8, 9, 10] := rfl
@[simp] theorem k37_24 : k37 24 = some [0, 1, 5, 6, 7, 8, 9, 10] := rfl
@[simp] theorem k37_25 : k37 25 = some [0, 1, 5, 6, 7, 8, 9, 10] := rfl
@[simp] theorem k37_26 : k37 26 = some [0, 1, 8] := rfl
@[simp] theorem k37_27 : k37 27 = some [8, 12] := rfl
@[simp] theorem k37_28 : k37 28 = some [8, 12] := rfl
@[simp] theorem k37_29 : k37 29 = some [] := rfl
@[simp] theorem k37_30 : k37 30 = some [0, 1, 5, 6, 7, 8, 9, 10] := rfl
@[simp] theorem k37_31 : k37 31 = some [0, 1, 8] := rfl
@[simp] theorem k37_32 : k37 32 = some [8, 13] := rfl
@[simp] theorem k37_33 : k37 33 = some [] := rfl
@[simp] theorem k37_34 : k37 34 = some [8, 13] := rfl
@[simp] theorem k37_35 : k37 35 = some [] := rfl
@[simp] theorem k37_20000 : k37 20000 = some [0, 1, 5] := rfl
@[simp] theorem k37_20001 : k37 20001 = some [] := rfl
@[simp] theorem k37_20002 : k37 20002 = some [0, 1, 5, 6, 7, 8, 9, 10] := rfl
@[simp] theorem k37_30000 : k37 30000 = none := rfl
@[simp] theorem k37_30001 : k37 30001 = none := rfl
@[simp] theorem k37_30002 : k37 30002 = none := rfl
@[simp] theorem k37_30003 : k37 30003 = none := rfl
@[simp] theorem k37_30004 : k37 30004 = none := rfl
@[simp] theorem k37_30005 : k37 30005 = none := rfl
@[simp] theorem k37_30006 : k37 30006 = none := rfl
@[simp] theorem k37_30007 : k37 30007 = none := rfl
@[simp] theorem k37_30008 : k37 30008 = none := rfl
@[simp] theorem k37_30009 : k37 30009 = none := rfl
@[simp] theorem k37_30010 : k37 30010 = none := rfl
@[simp] theorem k37_30011 : k37 30011 = none := rfl
@[simp] theorem k37_30012 : k37 30012 = none := rfl
@[simp] theorem k37_30013 : k37 30013 = none := rfl
@[simp] theorem k37_30014 : k37 30014 = none := rfl
@[simp] theorem k37_30015 : k37 30015 = none := rfl
@[simp] theorem k37_30016 : k37 30016 = none := rfl
@[simp] theorem k37_30017 : k37 30017 = none := rfl
@[simp] theorem k37_30018 : k37 30018 = none := rfl
@[simp] theorem k37_30019 : k37 30019 = none := rfl
@[simp] theorem k37_30020 : k37 30020 = none := rfl
@[simp] theorem k37_30021 : k37 30021 = none := rfl
@[simp] theorem k37_30022 : k37 30022 = none := rfl
@[simp] theorem k37_30023 : k37 30023 = none := rfl
@[simp] theorem k37_30024 : k37 30024 = none := rfl
@[simp] theorem k37_30025 : k37 30025 = none := rfl
@[simp] theorem k37_30026 : k37 30026 = none := rfl
@[simp] theorem k37_30027 : k37 30027 = none := rfl
@[simp] theorem k37_30028 : k37 30028 = none := rfl
@[simp] theorem k37_30029 : k37 30029 = none := rfl
@[simp] theorem k37_30030 : k37 30030 = none := rfl
@[simp] theorem k37_30031 : k37 30031 = none := rfl
@[simp] theorem k37_30032 : k37 30032 = none := rfl
@[simp] theorem k37_30033 : k37 30033 = none := rfl
@[simp] theorem k37_30034 : k37 30034 = none := rfl
@[simp] theorem k37_30035 : k37 30035 = none := rfl
@[simp] theorem k37_9999 : k37 9999 = some [4] := rfl
def k38 : Nat → Option (List Nat)
  | 0 => some [0, 1, 2]
  | 1 => some [0, 1, 2]
  | 2 => some [0, 1, 2, 7]
  | 3 => some [0, 1, 2, 7]
  | 4 => some [0, 1, 2, 7, 8, 9]
  | 5 => some [7]
  | 6 => some [0, 1, 2, 7, 9]
  | 7 => some []
  | 20000 => some []
  | 20001 => some [0, 1, 2, 7]
  | 9999 => some [6]
  | _ => none
@[simp] theorem k38_0 : k38 0 = some [0, 1, 2] := rfl
@[simp] theorem k38_1 : k38 1 = some [0, 1, 2] := rfl
@[simp] theorem k38_2 : k38 2 = some [0, 1, 2, 7] := rfl
@[simp] theorem k38_3 : k38 3 = some [0, 1, 2, 7] := rfl
@[simp] theorem k38_4 : k38 4 = some [0, 1, 2, 7, 8, 9] := rfl
@[simp] theorem k38_5 : k38 5 = some [7] := rfl
@[simp] theorem k38_6 : k38 6 = some [0, 1, 2, 7, 9] := rfl
@[simp] theorem k38_7 : k38 7 = some [] := rfl
@[simp] theorem k38_20000 : k38 20000 = some [] := rfl
@[simp] theorem k38_20001 : k38 20001 = some [0, 1, 2, 7] := rfl
@[simp] theorem k38_30000 : k38 30000 = none := rfl
@[simp] theorem k38_30001 : k38 30001 = none := rfl
@[simp] theorem k38_30002 : k38 30002 = none := rfl
@[simp] theorem k38_30003 : k38 30003 = none := rfl
@[simp] theorem k38_30004 : k38 30004 = none := rfl
@[simp] theorem k38_30005 : k38 30005 = none := rfl
@[simp] theorem k38_30006 : k38 30006 = none := rfl
@[simp] theorem k38_30007 : k38 30007 = none := rfl
@[simp] theorem k38_9999 : k38 9999 = some [6] := rfl
def k39 : Nat → Option (List Nat)
  | 0 => some [0, 1]
  | 1 => some [0, 1]
  | 9999 => some [4]
  | _ => none
@[simp] theorem k39_0 : k39 0 = some [0, 1] := rfl
@[simp] theorem k39_1 : k39 1 = some [0, 1] := rfl
@[simp] theorem k39_30000 : k39 30000 = none := rfl
@[simp] theorem k39_30001 : k39 30001 = none := rfl
@[simp] theorem k39_9999 : k39 9999 = some [4] := rfl
def k41 : Nat → Option (List Nat)
  | 0 => some [0]
  | 1 => some [0]
  | 9999 => some [2]
  | _ => none
@[simp] theorem k41_0 : k41 0 = some [0] := rfl
@[simp] theorem k41_1 : k41 1 = some [0] := rfl
@[simp] theorem k41_30000 : k41 30000 = none := rfl
@[simp] theorem k41_30001 : k41 30001 = none := rfl
@[simp] theorem k41_9999 : k41 9999 = some [2] := rfl
def k42 : Nat → Option (List Nat)
  | 0 => some [0, 1]
  | 1 => some [0, 1]
  | 2 => some [0, 1, 5, 6]
  | 3 => some [0, 1, 5, 6, 7]
  | 4 => some [0, 1, 5, 6, 7, 8]
  | 5 => some [0, 1, 5, 6, 7, 8, 9]
  | 6 => some [0, 1, 5, 6, 7, 8, 9]
  | 7 => some [0, 1, 5, 6, 7, 8, 9]
  | 8 => some [0, 1, 5, 6, 7, 8]
  | 9 => some []
  | 10 => some [0, 1, 5, 6, 7, 8]
  | 11 => some [0, 1, 5, 6, 7, 8, 10]
  | 12 => some [0, 1, 5, 6, 7, 8, 10]
  | 13 => some [0, 1, 5, 6, 7, 8, 10]
  | 14 => some [0, 1, 5, 6, 7, 8, 10]
  | 15 => some [0, 1, 5, 6, 7, 8, 10]
  | 16 => some [0, 1, 5, 6, 7, 8, 10]
  | 17 => some [7, 10]
  | 18 => some []
  | 20000 => some [0, 1, 5, 6, 7, 8]
  | 20001 => some [0, 1, 5, 6, 7, 8, 9]
  | 20002 => some []
  | 20003 => some [0, 1, 5, 6, 7, 8, 10]
  | 9999 => some [4]
  | _ => none
@[simp] theorem k42_0 : k42 0 = some [0, 1] := rfl
@[simp] theorem k42_1 : k42 1 = some [0, 1] := rfl
@[simp] theorem k42_2 : k42 2 = some [0, 1, 5, 6] := rfl
@[simp] theorem k42_3 : k42 3 = some [0, 1, 5, 6, 7] := rfl
@[simp] theorem k42_4 : k42 4 = some [0, 1, 5, 6, 7, 8] := rfl
@[simp] theorem k42_5 : k42 5 = some [0, 1, 5, 6, 7, 8, 9] := rfl
@[simp] theorem k42_6 : k42 6 = some [0, 1, 5, 6, 7, 8, 9] := rfl
@[simp] theorem k42_7 : k42 7 = some [0, 1, 5, 6, 7, 8, 9] := rfl
@[simp] theorem k42_8 : k42 8 = some [0, 1, 5, 6, 7, 8] := rfl
@[simp] theorem k42_9 : k42 9 = some [] := rfl
@[simp] theorem k42_10 : k42 10 = some [0, 1, 5, 6, 7, 8] := rfl
@[simp] theorem k42_11 : k42 11 = some [0, 1, 5, 6, 7, 8, 10] := rfl
@[simp] theorem k42_12 : k42 12 = some [0, 1, 5, 6, 7, 8, 10] := rfl
@[simp] theorem k42_13 : k42 13 = some [0, 1, 5, 6, 7, 8, 10] := rfl
@[simp] theorem k42_14 : k42 14 = some [0, 1, 5, 6, 7, 8, 10] := rfl
@[simp] theorem k42_15 : k42 15 = some [0, 1, 5, 6, 7, 8, 10] := rfl
@[simp] theorem k42_16 : k42 16 = some [0, 1, 5, 6, 7, 8, 10] := rfl
@[simp] theorem k42_17 : k42 17 = some [7, 10] := rfl
@[simp] theorem k42_18 : k42 18 = some [] := rfl
@[simp] theorem k42_20000 : k42 20000 = some [0, 1, 5, 6, 7, 8] := rfl
@[simp] theorem k42_20001 : k42 20001 = some [0, 1, 5, 6, 7, 8, 9] := rfl
@[simp] theorem k42_20002 : k42 20002 = some [] := rfl
@[simp] theorem k42_20003 : k42 20003 = some [0, 1, 5, 6, 7, 8, 10] := rfl
@[simp] theorem k42_30000 : k42 30000 = none := rfl
@[simp] theorem k42_30001 : k42 30001 = none := rfl
@[simp] theorem k42_30002 : k42 30002 = none := rfl
@[simp] theorem k42_30003 : k42 30003 = none := rfl
@[simp] theorem k42_30004 : k42 30004 = none := rfl
@[simp] theorem k42_30005 : k42 30005 = none := rfl
@[simp] theorem k42_30006 : k42 30006 = none := rfl
@[simp] theorem k42_30007 : k42 30007 = none := rfl
@[simp] theorem k42_30008 : k42 30008 = none := rfl
@[simp] theorem k42_30009 : k42 30009 = none := rfl
@[simp] theorem k42_30010 : k42 30010 = none := rfl
@[simp] theorem k42_30011 : k42 30011 = none := rfl
@[simp] theorem k42_30012 : k42 30012 = none := rfl
@[simp] theorem k42_30013 : k42 30013 = none := rfl
@[simp] theorem k42_30014 : k42 30014 = none := rfl
@[simp] theorem k42_30015 : k42 30015 = none := rfl
@[simp] theorem k42_30016 : k42 30016 = none := rfl
@[simp] theorem k42_30017 : k42 30017 = none := rfl
@[simp] theorem k42_30018 : k42 30018 = none := rfl
@[simp] theorem k42_9999 : k42 9999 = some [4] := rfl
def k43 : Nat → Option (List Nat)
  | 0 => some [0]
  | 1 => some [0]
  | 2 => some [0, 6, 7, 8]
  | 3 => some [0, 6, 8]
  | 4 => some [0, 5]
  | 5 => some [5]
  | 6 => some [0, 6, 7, 8]
  | 7 => some [0]
  | 20000 => some [0]
  | 20001 => some [0, 6, 7, 8]
  | 9999 => some [2, 3]
  | _ => none
@[simp] theorem k43_0 : k43 0 = some [0] := rfl
@[simp] theorem k43_1 : k43 1 = some [0] := rfl
@[simp] theorem k43_2 : k43 2 = some [0, 6, 7, 8] := rfl
@[simp] theorem k43_3 : k43 3 = some [0, 6, 8] := rfl
@[simp] theorem k43_4 : k43 4 = some [0, 5] := rfl
@[simp] theorem k43_5 : k43 5 = some [5] := rfl
@[simp] theorem k43_6 : k43 6 = some [0, 6, 7, 8] := rfl
@[simp] theorem k43_7 : k43 7 = some [0] := rfl
@[simp] theorem k43_20000 : k43 20000 = some [0] := rfl
@[simp] theorem k43_20001 : k43 20001 = some [0, 6, 7, 8] := rfl
@[simp] theorem k43_30000 : k43 30000 = none := rfl
@[simp] theorem k43_30001 : k43 30001 = none := rfl
@[simp] theorem k43_30002 : k43 30002 = none := rfl
@[simp] theorem k43_30003 : k43 30003 = none := rfl
@[simp] theorem k43_30004 : k43 30004 = none := rfl
@[simp] theorem k43_30005 : k43 30005 = none := rfl
@[simp] theorem k43_30006 : k43 30006 = none := rfl
@[simp] theorem k43_30007 : k43 30007 = none := rfl
@[simp] theorem k43_9999 : k43 9999 = some [2, 3] := rfl
def k45 : Nat → Option (List Nat)
  | 0 => some [0]
  | 1 => some [0]
  | 2 => some [0, 4]
  | 3 => some [0, 4, 5]
  | 4 => some [0, 4, 5]
  | 5 => some [0, 4, 5]
  | 6 => some [0, 4]
  | 7 => some [0, 4, 6, 7]
  | 8 => some [4, 6, 7, 8]
  | 9 => some [4, 6, 7, 8]
  | 10 => some [4, 6, 7, 8]
  | 11 => some [4, 6, 7, 8]
  | 12 => some [4, 6, 7, 8]
  | 13 => some [4, 6]
  | 20000 => some [0, 4]
  | 20001 => some [0, 4, 5]
  | 20002 => some [4, 6]
  | 20003 => some [4, 6, 7, 8]
  | 9999 => some [2, 3]
  | _ => none
@[simp] theorem k45_0 : k45 0 = some [0] := rfl
@[simp] theorem k45_1 : k45 1 = some [0] := rfl
@[simp] theorem k45_2 : k45 2 = some [0, 4] := rfl
@[simp] theorem k45_3 : k45 3 = some [0, 4, 5] := rfl
@[simp] theorem k45_4 : k45 4 = some [0, 4, 5] := rfl
@[simp] theorem k45_5 : k45 5 = some [0, 4, 5] := rfl
@[simp] theorem k45_6 : k45 6 = some [0, 4] := rfl
@[simp] theorem k45_7 : k45 7 = some [0, 4, 6, 7] := rfl
@[simp] theorem k45_8 : k45 8 = some [4, 6, 7, 8] := rfl
@[simp] theorem k45_9 : k45 9 = some [4, 6, 7, 8] := rfl
@[simp] theorem k45_10 : k45 10 = some [4, 6, 7, 8] := rfl
@[simp] theorem k45_11 : k45 11 = some [4, 6, 7, 8] := rfl
@[simp] theorem k45_12 : k45 12 = some [4, 6, 7, 8] := rfl
@[simp] theorem k45_13 : k45 13 = some [4, 6] := rfl
@[simp] theorem k45_20000 : k45 20000 = some [0, 4] := rfl
@[simp] theorem k45_20001 : k45 20001 = some [0, 4, 5] := rfl
@[simp] theorem k45_20002 : k45 20002 = some [4, 6] := rfl
@[simp] theorem k45_20003 : k45 20003 = some [4, 6, 7, 8] := rfl
@[simp] theorem k45_30000 : k45 30000 = none := rfl
@[simp] theorem k45_30001 : k45 30001 = none := rfl
@[simp] theorem k45_30002 : k45 30002 = none := rfl
@[simp] theorem k45_30003 : k45 30003 = none := rfl
@[simp] theorem k45_30004 : k45 30004 = none := rfl
@[simp] theorem k45_30005 : k45 30005 = none := rfl
@[simp] theorem k45_30006 : k45 30006 = none := rfl
@[simp] theorem k45_30007 : k45 30007 = none := rfl
@[simp] theorem k45_30008 : k45 30008 = none := rfl
@[simp] theorem k45_30009 : k45 30009 = none := rfl
@[simp] theorem k45_30010 : k45 30010 = none := rfl
@[simp] theorem k45_30011 : k45 30011 = none := rfl
@[simp] theorem k45_30012 : k45 30012 = none := rfl
@[simp] theorem k45_30013 : k45 30013 = none := rfl
@[simp] theorem k45_9999 : k45 9999 = some [2, 3] := rfl
def k46 : Nat → Option (List Nat)
  | 0 => some [0]
  | 1 => some [0]
  | 2 => some [0, 4]
  | 3 => some []
  | 4 => some [0, 4]
  | 5 => some [0, 4, 5]
  | 6 => some [0, 4, 5, 6]
  | 7 => some [0, 6]
  | 8 => some [0, 7]
  | 9 => some [0, 4, 5, 6]
  | 10 => some [0, 4, 5, 6, 8]
  | 11 => some [0, 4, 5, 8, 9]
  | 12 => some []
  | 13 => some [0, 5, 8, 9]
  | 14 => some [0, 5, 8, 9, 10]
  | 15 => some []
  | 16 => some [0, 5, 8, 10]
  | 17 => some [5, 10]
  | 18 => some [0, 5, 8, 10]
  | 19 => some [0, 5, 8, 10, 11]
  | 20 => some []
  | 21 => some [0, 5, 8, 10, 11]
  | 22 => some [5, 10, 11]
  | 23 => some [0, 5, 10, 11]
  | 24 => some [5, 10, 11, 12]
  | 25 => some []
  | 26 => some [5, 10, 11, 12]
  | 9999 => some [2, 3]
  | _ => none
@[simp] theorem k46_0 : k46 0 = some [0] := rfl
@[simp] theorem k46_1 : k46 1 = some [0] := rfl
@[simp] theorem k46_2 : k46 2 = some [0, 4] := rfl
@[simp] theorem k46_3 : k46 3 = some [] := rfl
@[simp] theorem k46_4 : k46 4 = some [0, 4] := rfl
@[simp] theorem k46_5 : k46 5 = some [0, 4, 5] := rfl
@[simp] theorem k46_6 : k46 6 = some [0, 4, 5, 6] := rfl
@[simp] theorem k46_7 : k46 7 = some [0, 6] := rfl
@[simp] theorem k46_8 : k46 8 = some [0, 7] := rfl
@[simp] theorem k46_9 : k46 9 = some [0, 4, 5, 6] := rfl
@[simp] theorem k46_10 : k46 10 = some [0, 4, 5, 6, 8] := rfl
@[simp] theorem k46_11 : k46 11 = some [0, 4, 5, 8, 9] := rfl
@[simp] theorem k46_12 : k46 12 = some [] := rfl
@[simp] theorem k46_13 : k46 13 = some [0, 5, 8, 9] := rfl
@[simp] theorem k46_14 : k46 14 = some [0, 5, 8, 9, 10] := rfl
@[simp] theorem k46_15 : k46 15 = some [] := rfl
@[simp] theorem k46_16 : k46 16 = some [0, 5, 8, 10] := rfl
@[simp] theorem k46_17 : k46 17 = some [5, 10] := rfl
@[simp] theorem k46_18 : k46 18 = some [0, 5, 8, 10] := rfl
@[simp] theorem k46_19 : k46 19 = some [0, 5, 8, 10, 11] := rfl
@[simp] theorem k46_20 : k46 20 = some [] := rfl
@[simp] theorem k46_21 : k46 21 = some [0, 5, 8, 10, 11] := rfl
@[simp] theorem k46_22 : k46 22 = some [5, 10, 11] := rfl
@[simp] theorem k46_23 : k46 23 = some [0, 5, 10, 11] := rfl
@[simp] theorem k46_24 : k46 24 = some [5, 10, 11, 12] := rfl
@[simp] theorem k46_25 : k46 25 = some [] := rfl
@[simp] theorem k46_26 : k46 26 = some [5, 10, 11, 12] := rfl
@[simp] theorem k46_30000 : k46 30000 = none := rfl
@[simp] theorem k46_30001 : k46 30001 = none := rfl
@[simp] theorem k46_30002 : k46 30002 = none := rfl
@[simp] theorem k46_30003 : k46 30003 = none := rfl
@[simp] theorem k46_30004 : k46 30004 = none := rfl
@[simp] theorem k46_30005 : k46 30005 = none := rfl
@[simp] theorem k46_30006 : k46 30006 = none := rfl
@[simp] theorem k46_30007 : k46 30007 = none := rfl
@[simp] theorem k46_30008 : k46 30008 = none := rfl
@[simp] theorem k46_30009 : k46 30009 = none := rfl
@[simp] theorem k46_30010 : k46 30010 = none := rfl
@[simp] theorem k46_30011 : k46 30011 = none := rfl
@[simp] theorem k46_30012 : k46 30012 = none := rfl
@[simp] theorem k46_30013 : k46 30013 = none := rfl
@[simp] theorem k46_30014 : k46 30014 = none := rfl
@[simp] theorem k46_30015 : k46 30015 = none := rfl
@[simp] theorem k46_30016 : k46 30016 = none := rfl
@[simp] theorem k46_30017 : k46 30017 = none := rfl
@[simp] theorem k46_30018 : k46 30018 = none := rfl
@[simp] theorem k46_30019 : k46 30019 = none := rfl
@[simp] theorem k46_30020 : k46 30020 = none := rfl
@[simp] theorem k46_30021 : k46 30021 = none := rfl
@[simp] theorem k46_30022 : k46 30022 = none := rfl
@[simp] theorem k46_30023 : k46 30023 = none := rfl
@[simp] theorem k46_30024 : k46 30024 = none := rfl
@[simp] theorem k46_30025 : k46 30025 = none := rfl
@[simp] theorem k46_30026 : k46 30026 = none := rfl
@[simp] theorem k46_9999 : k46 9999 = some [2, 3] := rfl
def kt : Nat → Option (Nat → Option (List Nat))
  | 3 => some k3
  | 4 => some k4
  | 5 => some k5
  | 6 => some k6
  | 7 => some k7
  | 8 => some k8
  | 9 => some k9
  | 10 => some k10
  | 11 => some k11
  | 12 => some k12
  | 13 => some k13
  | 14 => some k14
  | 15 => some k15
  | 16 => some k16
  | 17 => some k17
  | 18 => some k18
  | 19 => some k19
  | 20 => some k20
  | 21 => some k21
  | 22 => some k22
  | 23 => some k23
  | 24 => some k24
  | 25 => some k25
  | 26 => some k26
  | 27 => some k27
  | 28 => some k28
  | 29 => some k29
  | 30 => some k30
  | 31 => some k31
  | 32 => some k32
  | 33 => some k33
  | 34 => some k34
  | 35 => some k35
  | 36 => some k36
  | 37 => some k37
  | 38 => some k38
  | 39 => some k39
  | 41 => some k41
  | 42 => some k42
  | 43 => some k43
  | 45 => some k45
  | 46 => some k46
  | _ => none
noncomputable abbrev ev := evCall Tryd.prog tyTab kt
theorem fn3 : Tryd.prog.funcs[3]? = some Tryd.f3 := by kernel_rfl
theorem fn4 : Tryd.prog.funcs[4]? = some Tryd.f4 := by kernel_rfl
theorem fn5 : Tryd.prog.funcs[5]? = some Tryd.f5 := by kernel_rfl
theorem fn6 : Tryd.prog.funcs[6]? = some Tryd.f6 := by kernel_rfl
theorem fn7 : Tryd.prog.funcs[7]? = some Tryd.f7 := by kernel_rfl
theorem fn8 : Tryd.prog.funcs[8]? = some Tryd.f8 := by kernel_rfl
theorem fn9 : Tryd.prog.funcs[9]? = some Tryd.f9 := by kernel_rfl
theorem fn10 : Tryd.prog.funcs[10]? = some Tryd.f10 := by kernel_rfl
theorem fn11 : Tryd.prog.funcs[11]? = some Tryd.f11 := by kernel_rfl
theorem fn12 : Tryd.prog.funcs[12]? = some Tryd.f12 := by kernel_rfl
theorem fn13 : Tryd.prog.funcs[13]? = some Tryd.f13 := by kernel_rfl
theorem fn14 : Tryd.prog.funcs[14]? = some Tryd.f14 := by kernel_rfl
theorem fn15 : Tryd.prog.funcs[15]? = some Tryd.f15 := by kernel_rfl
theorem fn16 : Tryd.prog.funcs[16]? = some Tryd.f16 := by kernel_rfl
theorem fn17 : Tryd.prog.funcs[17]? = some Tryd.f17 := by kernel_rfl
theorem fn18 : Tryd.prog.funcs[18]? = some Tryd.f18 := by kernel_rfl
theorem fn19 : Tryd.prog.funcs[19]? = some Tryd.f19 := by kernel_rfl
theorem fn20 : Tryd.prog.funcs[20]? = some Tryd.f20 := by kernel_rfl
theorem fn21 : Tryd.prog.funcs[21]? = some Tryd.f21 := by kernel_rfl
theorem fn22 : Tryd.prog.funcs[22]? = some Tryd.f22 := by kernel_rfl
theorem fn23 : Tryd.prog.funcs[23]? = some Tryd.f23 := by kernel_rfl
theorem fn24 : Tryd.prog.funcs[24]? = some Tryd.f24 := by kernel_rfl
theorem fn25 : Tryd.prog.funcs[25]? = some Tryd.f25 := by kernel_rfl
theorem fn26 : Tryd.prog.funcs[26]? = some Tryd.f26 := by kernel_rfl
theorem fn27 : Tryd.prog.funcs[27]? = some Tryd.f27 := by kernel_rfl
theorem fn28 : Tryd.prog.funcs[28]? = some Tryd.f28 := by kernel_rfl
theorem fn29 : Tryd.prog.funcs[29]? = some Tryd.f29 := by kernel_rfl
theorem fn30 : Tryd.prog.funcs[30]? = some Tryd.f30 := by kernel_rfl
theorem fn31 : Tryd.prog.funcs[31]? = some Tryd.f31 := by kernel_rfl
theorem fn32 : Tryd.prog.funcs[32]? = some Tryd.f32 := by kernel_rfl
theorem fn33 : Tryd.prog.funcs[33]? = some Tryd.f33 := by kernel_rfl
theorem fn34 : Tryd.prog.funcs[34]? = some Tryd.f34 := by kernel_rfl
theorem fn35 : Tryd.prog.funcs[35]? = some Tryd.f35 := by kernel_rfl
theorem fn36 : Tryd.prog.funcs[36]? = some Tryd.f36 := by kernel_rfl
theorem fn37 : Tryd.prog.funcs[37]? = some Tryd.f37 := by kernel_rfl
theorem fn38 : Tryd.prog.funcs[38]? = some Tryd.f38 := by kernel_rfl
theorem fn39 : Tryd.prog.funcs[39]? = some Tryd.f39 := by kernel_rfl
theorem fn41 : Tryd.prog.funcs[41]? = some Tryd.f41 := by kernel_rfl
theorem fn42 : Tryd.prog.funcs[42]? = some Tryd.f42 := by kernel_rfl
theorem fn43 : Tryd.prog.funcs[43]? = some Tryd.f43 := by kernel_rfl
theorem fn45 : Tryd.prog.funcs[45]? = some Tryd.f45 := by kernel_rfl
theorem fn46 : Tryd.prog.funcs[46]? = some Tryd.f46 := by kernel_rfl
def bodyOk (kp : Nat → Option (List Nat)) (f : Func) : Bool := f.body.all (okCode (goodK kp))
theorem ok3 : bodyOk k3 Tryd.f3 = true := by kernel_rfl
theorem ok4 : bodyOk k4 Tryd.f4 = true := by kernel_rfl
theorem ok5 : bodyOk k5 Tryd.f5 = true := by kernel_rfl
theorem ok6 : bodyOk k6 Tryd.f6 = true := by kernel_rfl
theorem ok7 : bodyOk k7 Tryd.f7 = true := by kernel_rfl
theorem ok8 : bodyOk k8 Tryd.f8 = true := by kernel_rfl
theorem ok9 : bodyOk k9 Tryd.f9 = true := by kernel_rfl
theorem ok10 : bodyOk k10 Tryd.f10 = true := by kernel_rfl
theorem ok11 : bodyOk k11 Tryd.f11 = true := by kernel_rfl
theorem ok12 : bodyOk k12 Tryd.f12 = true := by kernel_rfl
theorem ok13 : bodyOk k13 Tryd.f13 = true := by kernel_rfl
theorem ok14 : bodyOk k14 Tryd.f14 = true := by kernel_rfl
theorem ok15 : bodyOk k15 Tryd.f15 = true := by kernel_rfl
theorem ok16 : bodyOk k16 Tryd.f16 = true := by kernel_rfl
theorem ok17 : bodyOk k17 Tryd.f17 = true := by kernel_rfl
theorem ok18 : bodyOk k18 Tryd.f18 = true := by kernel_rfl
theorem ok19 : bodyOk k19 Tryd.f19 = true := by kernel_rfl
theorem ok20 : bodyOk k20 Tryd.f20 = true := by kernel_rfl
theorem ok21 : bodyOk k21 Tryd.f21 = true := by kernel_rfl
theorem ok22 : bodyOk k22 Tryd.f22 = true := by kernel_rfl
theorem ok23 : bodyOk k23 Tryd.f23 = true := by kernel_rfl
theorem ok24 : bodyOk k24 Tryd.f24 = true := by kernel_rfl
theorem ok25 : bodyOk k25 Tryd.f25 = true := by kernel_rfl
theorem ok26 : bodyOk k26 Tryd.f26 = true := by kernel_rfl
theorem ok27 : bodyOk k27 Tryd.f27 = true := by kernel_rfl
theorem ok28 : bodyOk k28 Tryd.f28 = true := by kernel_rfl
theorem ok29 : bodyOk k29 Tryd.f29 = true := by kernel_rfl
theorem ok30 : bodyOk k30 Tryd.f30 = true := by kernel_rfl
theorem ok31 : bodyOk k31 Tryd.f31 = true := by kernel_rfl
theorem ok32 : bodyOk k32 Tryd.f32 = true := by kernel_rfl
theorem ok33 : bodyOk k33 Tryd.f33 = true := by kernel_rfl
theorem ok34 : bodyOk k34 Tryd.f34 = true := by kernel_rfl
theorem ok35 : bodyOk k35 Tryd.f35 = true := by kernel_rfl
theorem ok36 : bodyOk k36 Tryd.f36 = true := by kernel_rfl
theorem ok37 : bodyOk k37 Tryd.f37 = true := by kernel_rfl
theorem ok38 : bodyOk k38 Tryd.f38 = true := by kernel_rfl
theorem ok39 : bodyOk k39 Tryd.f39 = true := by kernel_rfl
theorem ok41 : bodyOk k41 Tryd.f41 = true := by kernel_rfl
theorem ok42 : bodyOk k42 Tryd.f42 = true := by kernel_rfl
theorem ok43 : bodyOk k43 Tryd.f43 = true := by kernel_rfl
theorem ok45 : bodyOk k45 Tryd.f45 = true := by kernel_rfl
theorem ok46 : bodyOk k46 Tryd.f46 = true := by kernel_rfl
theorem kOk : okProgram goodK Tryd.prog kt := by
  intro f fn c kp hk hf hb
  have gen : ∀ (g : Func) (q : Nat → Option (List Nat)), bodyOk q g = true → g = fn → some q = some kp → okCode (goodK kp) c = true := fun g q h e e2 => by
    subst e
    cases e2
    simp only [bodyOk, hb, Option.all_some] at h
    exact h
  unfold kt at hk
  split at hk
  · exact gen _ _ ok3 (by rw [fn3] at hf; injection hf) hk
  · exact gen _ _ ok4 (by rw [fn4] at hf; injection hf) hk
  · exact gen _ _ ok5 (by rw [fn5] at hf; injection hf) hk
  · exact gen _ _ ok6 (by rw [fn6] at hf; injection hf) hk
  · exact gen _ _ ok7 (by rw [fn7] at hf; injection hf) hk
  · exact gen _ _ ok8 (by rw [fn8] at hf; injection hf) hk
  · exact gen _ _ ok9 (by rw [fn9] at hf; injection hf) hk
  · exact gen _ _ ok10 (by rw [fn10] at hf; injection hf) hk
  · exact gen _ _ ok11 (by rw [fn11] at hf; injection hf) hk
  · exact gen _ _ ok12 (by rw [fn12] at hf; injection hf) hk
  · exact gen _ _ ok13 (by rw [fn13] at hf; injection hf) hk
  · exact gen _ _ ok14 (by rw [fn14] at hf; injection hf) hk
  · exact gen _ _ ok15 (by rw [fn15] at hf; injection hf) hk
  · exact gen _ _ ok16 (by rw [fn16] at hf; injection hf) hk
  · exact gen _ _ ok17 (by rw [fn17] at hf; injection hf) hk
  · exact gen _ _ ok18 (by rw [fn18] at hf; injection hf) hk
  · exact gen _ _ ok19 (by rw [fn19] at hf; injection hf) hk
  · exact gen _ _ ok20 (by rw [fn20] at hf; injection hf) hk
  · exact gen _ _ ok21 (by rw [fn21] at hf; injection hf) hk
  · exact gen _ _ ok22 (by rw [fn22] at hf; injection hf) hk
  · exact gen _ _ ok23 (by rw [fn23] at hf; injection hf) hk
  · exact gen _ _ ok24 (by rw [fn24] at hf; injection hf) hk
  · exact gen _ _ ok25 (by rw [fn25] at hf; injection hf) hk
  · exact gen _ _ ok26 (by rw [fn26] at hf; injection hf) hk
  · exact gen _ _ ok27 (by rw [fn27] at hf; injection hf) hk
  · exact gen _ _ ok28 (by rw [fn28] at hf; injection hf) hk
  · exact gen _ _ ok29 (by rw [fn29] at hf; injection hf) hk
  · exact gen _ _ ok30 (by rw [fn30] at hf; injection hf) hk
  · exact gen _ _ ok31 (by rw [fn31] at hf; injection hf) hk
  · exact gen _ _ ok32 (by rw [fn32] at hf; injection hf) hk
  · exact gen _ _ ok33 (by rw [fn33] at hf; injection hf) hk
  · exact gen _ _ ok34 (by rw [fn34] at hf; injection hf) hk
  · exact gen _ _ ok35 (by rw [fn35] at hf; injection hf) hk
  · exact gen _ _ ok36 (by rw [fn36] at hf; injection hf) hk
  · exact gen _ _ ok37 (by rw [fn37] at hf; injection hf) hk
  · exact gen _ _ ok38 (by rw [fn38] at hf; injection hf) hk
  · exact gen _ _ ok39 (by rw [fn39] at hf; injection hf) hk
  · exact gen _ _ ok41 (by rw [fn41] at hf; injection hf) hk
  · exact gen _ _ ok42 (by rw [fn42] at hf; injection hf) hk
  · exact gen _ _ ok43 (by rw [fn43] at hf; injection hf) hk
  · exact gen _ _ ok45 (by rw [fn45] at hf; injection hf) hk
  · exact gen _ _ ok46 (by rw [fn46] at hf; injection hf) hk
  · cases hk
end Go.Proofs.YtgamgcmjiancmaaDoor

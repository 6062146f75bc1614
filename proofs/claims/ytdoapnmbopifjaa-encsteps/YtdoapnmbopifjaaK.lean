/- What each function still asks for at its loops' heads, and at its ends; its regions may run in any order. No condition. -/
import Derived.Test.YtdoapnmbopifjaaTy
namespace Go.Proofs.Ytdoapnmbopifjaa
open Go.Vabs
def k2 : Nat → Option (List Nat)
  | 0 => some []
  | 9999 => some []
  | _ => none
@[simp] theorem k2_0 : k2 0 = some [] := rfl
@[simp] theorem k2_30000 : k2 30000 = none := rfl
@[simp] theorem k2_9999 : k2 9999 = some [] := rfl
def k3 : Nat → Option (List Nat)
  | 0 => some [0, 1, 2]
  | 1 => some [1, 2, 3]
  | 2 => some [1, 2, 3, 7]
  | 3 => some [7]
  | 4 => some [1, 2, 3, 7]
  | 5 => some [1, 2, 3, 7, 8]
  | 6 => some [1, 2, 3, 7, 9, 10]
  | 7 => some [1, 2, 3, 7, 11]
  | 8 => some [1, 2, 3, 7, 11, 12]
  | 9999 => some [6]
  | _ => none
@[simp] theorem k3_0 : k3 0 = some [0, 1, 2] := rfl
@[simp] theorem k3_1 : k3 1 = some [1, 2, 3] := rfl
@[simp] theorem k3_2 : k3 2 = some [1, 2, 3, 7] := rfl
@[simp] theorem k3_3 : k3 3 = some [7] := rfl
@[simp] theorem k3_4 : k3 4 = some [1, 2, 3, 7] := rfl
@[simp] theorem k3_5 : k3 5 = some [1, 2, 3, 7, 8] := rfl
@[simp] theorem k3_6 : k3 6 = some [1, 2, 3, 7, 9, 10] := rfl
@[simp] theorem k3_7 : k3 7 = some [1, 2, 3, 7, 11] := rfl
@[simp] theorem k3_8 : k3 8 = some [1, 2, 3, 7, 11, 12] := rfl
@[simp] theorem k3_30000 : k3 30000 = none := rfl
@[simp] theorem k3_30001 : k3 30001 = none := rfl
@[simp] theorem k3_30002 : k3 30002 = none := rfl
@[simp] theorem k3_30003 : k3 30003 = none := rfl
@[simp] theorem k3_30004 : k3 30004 = none := rfl
@[simp] theorem k3_30005 : k3 30005 = none := rfl
@[simp] theorem k3_30006 : k3 30006 = none := rfl
@[simp] theorem k3_30007 : k3 30007 = none := rfl
@[simp] theorem k3_30008 : k3 30008 = none := rfl
@[simp] theorem k3_9999 : k3 9999 = some [6] := rfl
def k4 : Nat → Option (List Nat)
  | 0 => some [0, 1, 2]
  | 1 => some [1, 2, 3]
  | 2 => some [1, 2, 3, 7]
  | 3 => some [7]
  | 4 => some [1, 2, 3, 7]
  | 5 => some [1, 3, 7, 8, 9]
  | 6 => some [1, 3, 7, 8, 9, 10, 11]
  | 7 => some [7]
  | 8 => some [1, 3, 7, 8, 10]
  | 9999 => some [6]
  | _ => none
@[simp] theorem k4_0 : k4 0 = some [0, 1, 2] := rfl
@[simp] theorem k4_1 : k4 1 = some [1, 2, 3] := rfl
@[simp] theorem k4_2 : k4 2 = some [1, 2, 3, 7] := rfl
@[simp] theorem k4_3 : k4 3 = some [7] := rfl
@[simp] theorem k4_4 : k4 4 = some [1, 2, 3, 7] := rfl
@[simp] theorem k4_5 : k4 5 = some [1, 3, 7, 8, 9] := rfl
@[simp] theorem k4_6 : k4 6 = some [1, 3, 7, 8, 9, 10, 11] := rfl
@[simp] theorem k4_7 : k4 7 = some [7] := rfl
@[simp] theorem k4_8 : k4 8 = some [1, 3, 7, 8, 10] := rfl
@[simp] theorem k4_30000 : k4 30000 = none := rfl
@[simp] theorem k4_30001 : k4 30001 = none := rfl
@[simp] theorem k4_30002 : k4 30002 = none := rfl
@[simp] theorem k4_30003 : k4 30003 = none := rfl
@[simp] theorem k4_30004 : k4 30004 = none := rfl
@[simp] theorem k4_30005 : k4 30005 = none := rfl
@[simp] theorem k4_30006 : k4 30006 = none := rfl
@[simp] theorem k4_30007 : k4 30007 = none := rfl
@[simp] theorem k4_30008 : k4 30008 = none := rfl
@[simp] theorem k4_9999 : k4 9999 = some [6] := rfl
def k5 : Nat → Option (List Nat)
  | 0 => some [0]
  | 1 => some [1]
  | 2 => some [1, 3]
  | 3 => some [1, 3, 4]
  | 4 => some [1, 3, 4, 5]
  | 5 => some [3, 4, 5, 6]
  | 6 => some [3, 4, 5, 6, 7]
  | 7 => some [7]
  | 8 => some [3, 4, 5, 6, 7]
  | 9 => some [3, 5, 6, 7, 8, 9]
  | 10 => some [3, 6, 7, 9, 10, 11]
  | 11 => some [7]
  | 12 => some [3, 6, 7, 10]
  | 13 => some [6, 7, 10, 12]
  | 9999 => some [2]
  | _ => none
@[simp] theorem k5_0 : k5 0 = some [0] := rfl
@[simp] theorem k5_1 : k5 1 = some [1] := rfl
@[simp] theorem k5_2 : k5 2 = some [1, 3] := rfl
@[simp] theorem k5_3 : k5 3 = some [1, 3, 4] := rfl
@[simp] theorem k5_4 : k5 4 = some [1, 3, 4, 5] := rfl
@[simp] theorem k5_5 : k5 5 = some [3, 4, 5, 6] := rfl
@[simp] theorem k5_6 : k5 6 = some [3, 4, 5, 6, 7] := rfl
@[simp] theorem k5_7 : k5 7 = some [7] := rfl
@[simp] theorem k5_8 : k5 8 = some [3, 4, 5, 6, 7] := rfl
@[simp] theorem k5_9 : k5 9 = some [3, 5, 6, 7, 8, 9] := rfl
@[simp] theorem k5_10 : k5 10 = some [3, 6, 7, 9, 10, 11] := rfl
@[simp] theorem k5_11 : k5 11 = some [7] := rfl
@[simp] theorem k5_12 : k5 12 = some [3, 6, 7, 10] := rfl
@[simp] theorem k5_13 : k5 13 = some [6, 7, 10, 12] := rfl
@[simp] theorem k5_30000 : k5 30000 = none := rfl
@[simp] theorem k5_30001 : k5 30001 = none := rfl
@[simp] theorem k5_30002 : k5 30002 = none := rfl
@[simp] theorem k5_30003 : k5 30003 = none := rfl
@[simp] theorem k5_30004 : k5 30004 = none := rfl
@[simp] theorem k5_30005 : k5 30005 = none := rfl
@[simp] theorem k5_30006 : k5 30006 = none := rfl
@[simp] theorem k5_30007 : k5 30007 = none := rfl
@[simp] theorem k5_30008 : k5 30008 = none := rfl
@[simp] theorem k5_30009 : k5 30009 = none := rfl
@[simp] theorem k5_30010 : k5 30010 = none := rfl
@[simp] theorem k5_30011 : k5 30011 = none := rfl
@[simp] theorem k5_30012 : k5 30012 = none := rfl
@[simp] theorem k5_30013 : k5 30013 = none := rfl
@[simp] theorem k5_9999 : k5 9999 = some [2] := rfl
def k6 : Nat → Option (List Nat)
  | 0 => some [0, 1, 2]
  | 1 => some [1, 2, 3]
  | 2 => some [1, 2, 3, 7]
  | 3 => some [7]
  | 4 => some [1, 2, 3, 7]
  | 5 => some [1, 2, 3, 7, 8]
  | 6 => some [1, 2, 3, 7, 8, 9]
  | 7 => some [1, 2, 3, 7, 8, 9, 10]
  | 9999 => some [6]
  | _ => none
@[simp] theorem k6_0 : k6 0 = some [0, 1, 2] := rfl
@[simp] theorem k6_1 : k6 1 = some [1, 2, 3] := rfl
@[simp] theorem k6_2 : k6 2 = some [1, 2, 3, 7] := rfl
@[simp] theorem k6_3 : k6 3 = some [7] := rfl
@[simp] theorem k6_4 : k6 4 = some [1, 2, 3, 7] := rfl
@[simp] theorem k6_5 : k6 5 = some [1, 2, 3, 7, 8] := rfl
@[simp] theorem k6_6 : k6 6 = some [1, 2, 3, 7, 8, 9] := rfl
@[simp] theorem k6_7 : k6 7 = some [1, 2, 3, 7, 8, 9, 10] := rfl
@[simp] theorem k6_30000 : k6 30000 = none := rfl
@[simp] theorem k6_30001 : k6 30001 = none := rfl
@[simp] theorem k6_30002 : k6 30002 = none := rfl
@[simp] theorem k6_30003 : k6 30003 = none := rfl
@[simp] theorem k6_30004 : k6 30004 = none := rfl
@[simp] theorem k6_30005 : k6 30005 = none := rfl
@[simp] theorem k6_30006 : k6 30006 = none := rfl
@[simp] theorem k6_30007 : k6 30007 = none := rfl
@[simp] theorem k6_9999 : k6 9999 = some [6] := rfl
def k7 : Nat → Option (List Nat)
  | 0 => some [0, 1]
  | 1 => some [1, 2]
  | 2 => some [1, 2, 5]
  | 3 => some [5]
  | 4 => some [1, 2, 5]
  | 5 => some [1, 2, 5, 6]
  | 6 => some [1, 2, 5, 6]
  | 7 => some [1, 2, 5, 6]
  | 8 => some []
  | 9 => some [2, 5]
  | 20000 => some [2, 5]
  | 20001 => some [1, 2, 5, 6]
  | 9999 => some [4]
  | _ => none
@[simp] theorem k7_0 : k7 0 = some [0, 1] := rfl
@[simp] theorem k7_1 : k7 1 = some [1, 2] := rfl
@[simp] theorem k7_2 : k7 2 = some [1, 2, 5] := rfl
@[simp] theorem k7_3 : k7 3 = some [5] := rfl
@[simp] theorem k7_4 : k7 4 = some [1, 2, 5] := rfl
@[simp] theorem k7_5 : k7 5 = some [1, 2, 5, 6] := rfl
@[simp] theorem k7_6 : k7 6 = some [1, 2, 5, 6] := rfl
@[simp] theorem k7_7 : k7 7 = some [1, 2, 5, 6] := rfl
@[simp] theorem k7_8 : k7 8 = some [] := rfl
@[simp] theorem k7_9 : k7 9 = some [2, 5] := rfl
@[simp] theorem k7_20000 : k7 20000 = some [2, 5] := rfl
@[simp] theorem k7_20001 : k7 20001 = some [1, 2, 5, 6] := rfl
@[simp] theorem k7_30000 : k7 30000 = none := rfl
@[simp] theorem k7_30001 : k7 30001 = none := rfl
@[simp] theorem k7_30002 : k7 30002 = none := rfl
@[simp] theorem k7_30003 : k7 30003 = none := rfl
@[simp] theorem k7_30004 : k7 30004 = none := rfl
@[simp] theorem k7_30005 : k7 30005 = none := rfl
@[simp] theorem k7_30006 : k7 30006 = none := rfl
@[simp] theorem k7_30007 : k7 30007 = none := rfl
@[simp] theorem k7_30008 : k7 30008 = none := rfl
@[simp] theorem k7_30009 : k7 30009 = none := rfl
@[simp] theorem k7_9999 : k7 9999 = some [4] := rfl
def k8 : Nat → Option (List Nat)
  | 0 => some [0]
  | 1 => some [1]
  | 2 => some [1, 3]
  | 3 => some [1, 3, 4]
  | 4 => some [1, 3, 4, 5]
  | 5 => some [3, 4, 5, 6]
  | 6 => some [3, 4, 5, 6, 7]
  | 7 => some [7]
  | 8 => some [3, 4, 5, 6, 7]
  | 9 => some [3, 4, 5, 6, 7, 8, 9]
  | 10 => some [3, 5, 6, 7, 8, 9, 10]
  | 11 => some [3, 5, 6, 7, 8, 9, 10, 13, 14]
  | 12 => some [3, 6, 7, 8, 9, 10, 13, 14, 15, 16]
  | 13 => some [7]
  | 14 => some [3, 6, 7, 8, 10, 13, 15]
  | 15 => some [6, 7, 8, 10, 13, 15, 17]
  | 16 => some [6, 7, 8, 10, 15, 17, 18]
  | 17 => some [6, 7, 10, 17, 18, 19]
  | 30014 => some [3, 8, 87, 88]
  | 9999 => some [2]
  | _ => none
@[simp] theorem k8_0 : k8 0 = some [0] := rfl
@[simp] theorem k8_1 : k8 1 = some [1] := rfl
@[simp] theorem k8_2 : k8 2 = some [1, 3] := rfl
@[simp] theorem k8_3 : k8 3 = some [1, 3, 4] := rfl
@[simp] theorem k8_4 : k8 4 = some [1, 3, 4, 5] := rfl
@[simp] theorem k8_5 : k8 5 = some [3, 4, 5, 6] := rfl
@[simp] theorem k8_6 : k8 6 = some [3, 4, 5, 6, 7] := rfl
@[simp] theorem k8_7 : k8 7 = some [7] := rfl
@[simp] theorem k8_8 : k8 8 = some [3, 4, 5, 6, 7] := rfl
@[simp] theorem k8_9 : k8 9 = some [3, 4, 5, 6, 7, 8, 9] := rfl
@[simp] theorem k8_10 : k8 10 = some [3, 5, 6, 7, 8, 9, 10] := rfl
@[simp] theorem k8_11 : k8 11 = some [3, 5, 6, 7, 8, 9, 10, 13, 14] := rfl
@[simp] theorem k8_12 : k8 12 = some [3, 6, 7, 8, 9, 10, 13, 14, 15, 16] := rfl
@[simp] theorem k8_13 : k8 13 = some [7] := rfl
@[simp] theorem k8_14 : k8 14 = some [3, 6, 7, 8, 10, 13, 15] := rfl
@[simp] theorem k8_15 : k8 15 = some [6, 7, 8, 10, 13, 15, 17] := rfl
@[simp] theorem k8_16 : k8 16 = some [6, 7, 8, 10, 15, 17, 18] := rfl
@[simp] theorem k8_17 : k8 17 = some [6, 7, 10, 17, 18, 19] := rfl
@[simp] theorem k8_30014 : k8 30014 = some [3, 8, 87, 88] := rfl
@[simp] theorem k8_30000 : k8 30000 = none := rfl
@[simp] theorem k8_30001 : k8 30001 = none := rfl
@[simp] theorem k8_30002 : k8 30002 = none := rfl
@[simp] theorem k8_30003 : k8 30003 = none := rfl
@[simp] theorem k8_30004 : k8 30004 = none := rfl
@[simp] theorem k8_30005 : k8 30005 = none := rfl
@[simp] theorem k8_30006 : k8 30006 = none := rfl
@[simp] theorem k8_30007 : k8 30007 = none := rfl
@[simp] theorem k8_30008 : k8 30008 = none := rfl
@[simp] theorem k8_30009 : k8 30009 = none := rfl
@[simp] theorem k8_30010 : k8 30010 = none := rfl
@[simp] theorem k8_30011 : k8 30011 = none := rfl
@[simp] theorem k8_30012 : k8 30012 = none := rfl
@[simp] theorem k8_30013 : k8 30013 = none := rfl
@[simp] theorem k8_30015 : k8 30015 = none := rfl
@[simp] theorem k8_30016 : k8 30016 = none := rfl
@[simp] theorem k8_30017 : k8 30017 = none := rfl
@[simp] theorem k8_9999 : k8 9999 = some [2] := rfl
def k9 : Nat → Option (List Nat)
  | 0 => some [0, 1, 2]
  | 1 => some [1, 2, 3]
  | 2 => some [1, 2, 3, 7]
  | 3 => some [7]
  | 4 => some [1, 2, 3, 7]
  | 5 => some [1, 2, 3, 7, 8]
  | 6 => some [1, 2, 3, 7, 8, 9]
  | 7 => some [1, 2, 3, 7, 8, 9, 10]
  | 8 => some [1, 2, 3, 7, 8, 9, 10, 11]
  | 9999 => some [6]
  | _ => none
@[simp] theorem k9_0 : k9 0 = some [0, 1, 2] := rfl
@[simp] theorem k9_1 : k9 1 = some [1, 2, 3] := rfl
@[simp] theorem k9_2 : k9 2 = some [1, 2, 3, 7] := rfl
@[simp] theorem k9_3 : k9 3 = some [7] := rfl
@[simp] theorem k9_4 : k9 4 = some [1, 2, 3, 7] := rfl
@[simp] theorem k9_5 : k9 5 = some [1, 2, 3, 7, 8] := rfl
@[simp] theorem k9_6 : k9 6 = some [1, 2, 3, 7, 8, 9] := rfl
@[simp] theorem k9_7 : k9 7 = some [1, 2, 3, 7, 8, 9, 10] := rfl
@[simp] theorem k9_8 : k9 8 = some [1, 2, 3, 7, 8, 9, 10, 11] := rfl
@[simp] theorem k9_30000 : k9 30000 = none := rfl
@[simp] theorem k9_30001 : k9 30001 = none := rfl
@[simp] theorem k9_30002 : k9 30002 = none := rfl
@[simp] theorem k9_30003 : k9 30003 = none := rfl
@[simp] theorem k9_30004 : k9 30004 = none := rfl
@[simp] theorem k9_30005 : k9 30005 = none := rfl
@[simp] theorem k9_30006 : k9 30006 = none := rfl
@[simp] theorem k9_30007 : k9 30007 = none := rfl
@[simp] theorem k9_30008 : k9 30008 = none := rfl
@[simp] theorem k9_9999 : k9 9999 = some [6] := rfl
def k10 : Nat → Option (List Nat)
  | 0 => some [0]
  | 1 => some [1]
  | 2 => some [1, 3]
  | 3 => some [1, 3, 4]
  | 4 => some [1, 3, 4, 5]
  | 5 => some [3, 4, 5, 6]
  | 6 => some [3, 4, 5, 6, 7]
  | 7 => some [7]
  | 8 => some [3, 4, 5, 6, 7]
  | 9 => some [3, 4, 5, 6, 7, 8, 9]
  | 10 => some [3, 5, 6, 7, 8, 9, 10, 11]
  | 11 => some [3, 6, 7, 8, 9, 11, 13, 14]
  | 12 => some [7]
  | 13 => some [3, 6, 7, 8, 11, 13]
  | 14 => some [3, 6, 7, 8, 11, 13, 15]
  | 15 => some [3, 6, 7, 8, 11, 13, 15, 16]
  | 16 => some [3, 6, 7, 8, 11, 13, 15, 16]
  | 17 => some [3, 6, 7, 8, 11, 13, 15, 16]
  | 18 => some [3, 6, 7, 8, 13, 15]
  | 19 => some [3, 6, 7, 8, 13, 15, 17]
  | 20 => some [6, 7, 8, 13, 15, 17, 18]
  | 21 => some [6, 7, 8, 13, 15, 17, 18, 19]
  | 22 => some [6, 7, 8, 13, 17, 18, 19, 20]
  | 20000 => some [3, 6, 7, 8, 13, 15]
  | 20001 => some [3, 6, 7, 8, 11, 13, 15, 16]
  | 9999 => some [2]
  | _ => none
@[simp] theorem k10_0 : k10 0 = some [0] := rfl
@[simp] theorem k10_1 : k10 1 = some [1] := rfl
@[simp] theorem k10_2 : k10 2 = some [1, 3] := rfl
@[simp] theorem k10_3 : k10 3 = some [1, 3, 4] := rfl
@[simp] theorem k10_4 : k10 4 = some [1, 3, 4, 5] := rfl
@[simp] theorem k10_5 : k10 5 = some [3, 4, 5, 6] := rfl
@[simp] theorem k10_6 : k10 6 = some [3, 4, 5, 6, 7] := rfl
@[simp] theorem k10_7 : k10 7 = some [7] := rfl
@[simp] theorem k10_8 : k10 8 = some [3, 4, 5, 6, 7] := rfl
@[simp] theorem k10_9 : k10 9 = some [3, 4, 5, 6, 7, 8, 9] := rfl
@[simp] theorem k10_10 : k10 10 = some [3, 5, 6, 7, 8, 9, 10, 11] := rfl
@[simp] theorem k10_11 : k10 11 = some [3, 6, 7, 8, 9, 11, 13, 14] := rfl
@[simp] theorem k10_12 : k10 12 = some [7] := rfl
@[simp] theorem k10_13 : k10 13 = some [3, 6, 7, 8, 11, 13] := rfl
@[simp] theorem k10_14 : k10 14 = some [3, 6, 7, 8, 11, 13, 15] := rfl
@[simp] theorem k10_15 : k10 15 = some [3, 6, 7, 8, 11, 13, 15, 16] := rfl
@[simp] theorem k10_16 : k10 16 = some [3, 6, 7, 8, 11, 13, 15, 16] := rfl
@[simp] theorem k10_17 : k10 17 = some [3, 6, 7, 8, 11, 13, 15, 16] := rfl
@[simp] theorem k10_18 : k10 18 = some [3, 6, 7, 8, 13, 15] := rfl
@[simp] theorem k10_19 : k10 19 = some [3, 6, 7, 8, 13, 15, 17] := rfl
@[simp] theorem k10_20 : k10 20 = some [6, 7, 8, 13, 15, 17, 18] := rfl
@[simp] theorem k10_21 : k10 21 = some [6, 7, 8, 13, 15, 17, 18, 19] := rfl
@[simp] theorem k10_22 : k10 22 = some [6, 7, 8, 13, 17, 18, 19, 20] := rfl
@[simp] theorem k10_20000 : k10 20000 = some [3, 6, 7, 8, 13, 15] := rfl
@[simp] theorem k10_20001 : k10 20001 = some [3, 6, 7, 8, 11, 13, 15, 16] := rfl
@[simp] theorem k10_30000 : k10 30000 = none := rfl
@[simp] theorem k10_30001 : k10 30001 = none := rfl
@[simp] theorem k10_30002 : k10 30002 = none := rfl
@[simp] theorem k10_30003 : k10 30003 = none := rfl
@[simp] theorem k10_30004 : k10 30004 = none := rfl
@[simp] theorem k10_30005 : k10 30005 = none := rfl
@[simp] theorem k10_30006 : k10 30006 = none := rfl
@[simp] theorem k10_30007 : k10 30007 = none := rfl
@[simp] theorem k10_30008 : k10 30008 = none := rfl
@[simp] theorem k10_30009 : k10 30009 = none := rfl
@[simp] theorem k10_30010 : k10 30010 = none := rfl
@[simp] theorem k10_30011 : k10 30011 = none := rfl
@[simp] theorem k10_30012 : k10 30012 = none := rfl
@[simp] theorem k10_30013 : k10 30013 = none := rfl
@[simp] theorem k10_30014 : k10 30014 = none := rfl
@[simp] theorem k10_30015 : k10 30015 = none := rfl
@[simp] theorem k10_30016 : k10 30016 = none := rfl
@[simp] theorem k10_30017 : k10 30017 = none := rfl
@[simp] theorem k10_30018 : k10 30018 = none := rfl
@[simp] theorem k10_30019 : k10 30019 = none := rfl
@[simp] theorem k10_30020 : k10 30020 = none := rfl
@[simp] theorem k10_30021 : k10 30021 = none := rfl
@[simp] theorem k10_30022 : k10 30022 = none := rfl
@[simp] theorem k10_9999 : k10 9999 = some [2] := rfl
def k11 : Nat → Option (List Nat)
  | 0 => some []
  | 1 => some []
  | 2 => some [1]
  | 3 => some [1, 2]
  | 4 => some [1, 2, 3]
  | 5 => some [1, 2, 3, 4]
  | 9999 => some [0]
  | _ => none
@[simp] theorem k11_0 : k11 0 = some [] := rfl
@[simp] theorem k11_1 : k11 1 = some [] := rfl
@[simp] theorem k11_2 : k11 2 = some [1] := rfl
@[simp] theorem k11_3 : k11 3 = some [1, 2] := rfl
@[simp] theorem k11_4 : k11 4 = some [1, 2, 3] := rfl
@[simp] theorem k11_5 : k11 5 = some [1, 2, 3, 4] := rfl
@[simp] theorem k11_30000 : k11 30000 = none := rfl
@[simp] theorem k11_30001 : k11 30001 = none := rfl
@[simp] theorem k11_30002 : k11 30002 = none := rfl
@[simp] theorem k11_30003 : k11 30003 = none := rfl
@[simp] theorem k11_30004 : k11 30004 = none := rfl
@[simp] theorem k11_30005 : k11 30005 = none := rfl
@[simp] theorem k11_9999 : k11 9999 = some [0] := rfl
def k12 : Nat → Option (List Nat)
  | 0 => some [0, 1]
  | 1 => some [1, 2]
  | 9999 => some [4]
  | _ => none
@[simp] theorem k12_0 : k12 0 = some [0, 1] := rfl
@[simp] theorem k12_1 : k12 1 = some [1, 2] := rfl
@[simp] theorem k12_30000 : k12 30000 = none := rfl
@[simp] theorem k12_30001 : k12 30001 = none := rfl
@[simp] theorem k12_9999 : k12 9999 = some [4] := rfl
def k13 : Nat → Option (List Nat)
  | 0 => some [0]
  | 1 => some [1]
  | 9999 => some [2]
  | _ => none
@[simp] theorem k13_0 : k13 0 = some [0] := rfl
@[simp] theorem k13_1 : k13 1 = some [1] := rfl
@[simp] theorem k13_30000 : k13 30000 = none := rfl
@[simp] theorem k13_30001 : k13 30001 = none := rfl
@[simp] theorem k13_9999 : k13 9999 = some [2] := rfl
def k14 : Nat → Option (List Nat)
  | 0 => some [0, 1, 2]
  | 1 => some [1, 2, 3]
  | 2 => some []
  | 3 => some [1, 2, 3]
  | 4 => some [1, 2, 3, 8]
  | 5 => some [1, 3, 8]
  | 6 => some [3, 8]
  | 7 => some [3, 8, 9]
  | 8 => some [3, 8, 9]
  | 9 => some [3, 8, 9]
  | 10 => some [3, 8, 9, 10]
  | 11 => some [3, 8, 9, 10, 11]
  | 12 => some [8]
  | 20000 => some [8]
  | 20001 => some [3, 8, 9]
  | 9999 => some [6, 7]
  | _ => none
@[simp] theorem k14_0 : k14 0 = some [0, 1, 2] := rfl
@[simp] theorem k14_1 : k14 1 = some [1, 2, 3] := rfl
@[simp] theorem k14_2 : k14 2 = some [] := rfl
@[simp] theorem k14_3 : k14 3 = some [1, 2, 3] := rfl
@[simp] theorem k14_4 : k14 4 = some [1, 2, 3, 8] := rfl
@[simp] theorem k14_5 : k14 5 = some [1, 3, 8] := rfl
@[simp] theorem k14_6 : k14 6 = some [3, 8] := rfl
@[simp] theorem k14_7 : k14 7 = some [3, 8, 9] := rfl
@[simp] theorem k14_8 : k14 8 = some [3, 8, 9] := rfl
@[simp] theorem k14_9 : k14 9 = some [3, 8, 9] := rfl
@[simp] theorem k14_10 : k14 10 = some [3, 8, 9, 10] := rfl
@[simp] theorem k14_11 : k14 11 = some [3, 8, 9, 10, 11] := rfl
@[simp] theorem k14_12 : k14 12 = some [8] := rfl
@[simp] theorem k14_20000 : k14 20000 = some [8] := rfl
@[simp] theorem k14_20001 : k14 20001 = some [3, 8, 9] := rfl
@[simp] theorem k14_30000 : k14 30000 = none := rfl
@[simp] theorem k14_30001 : k14 30001 = none := rfl
@[simp] theorem k14_30002 : k14 30002 = none := rfl
@[simp] theorem k14_30003 : k14 30003 = none := rfl
@[simp] theorem k14_30004 : k14 30004 = none := rfl
@[simp] theorem k14_30005 : k14 30005 = none := rfl
@[simp] theorem k14_30006 : k14 30006 = none := rfl
@[simp] theorem k14_30007 : k14 30007 = none := rfl
@[simp] theorem k14_30008 : k14 30008 = none := rfl
@[simp] theorem k14_30009 : k14 30009 = none := rfl
@[simp] theorem k14_30010 : k14 30010 = none := rfl
@[simp] theorem k14_30011 : k14 30011 = none := rfl
@[simp] theorem k14_30012 : k14 30012 = none := rfl
@[simp] theorem k14_9999 : k14 9999 = some [6, 7] := rfl
def k15 : Nat → Option (List Nat)
  | 0 => some [0, 1]
  | 1 => some [0, 1]
  | 2 => some []
  | 3 => some [0, 1]
  | 4 => some [0, 1, 5]
  | 5 => some [0, 1, 5]
  | 6 => some [0, 1, 5]
  | 7 => some []
  | 8 => some []
  | 20000 => some []
  | 20001 => some [0, 1, 5]
  | 9999 => some [4]
  | _ => none
@[simp] theorem k15_0 : k15 0 = some [0, 1] := rfl
@[simp] theorem k15_1 : k15 1 = some [0, 1] := rfl
@[simp] theorem k15_2 : k15 2 = some [] := rfl
@[simp] theorem k15_3 : k15 3 = some [0, 1] := rfl
@[simp] theorem k15_4 : k15 4 = some [0, 1, 5] := rfl
@[simp] theorem k15_5 : k15 5 = some [0, 1, 5] := rfl
@[simp] theorem k15_6 : k15 6 = some [0, 1, 5] := rfl
@[simp] theorem k15_7 : k15 7 = some [] := rfl
@[simp] theorem k15_8 : k15 8 = some [] := rfl
@[simp] theorem k15_20000 : k15 20000 = some [] := rfl
@[simp] theorem k15_20001 : k15 20001 = some [0, 1, 5] := rfl
@[simp] theorem k15_30000 : k15 30000 = none := rfl
@[simp] theorem k15_30001 : k15 30001 = none := rfl
@[simp] theorem k15_30002 : k15 30002 = none := rfl
@[simp] theorem k15_30003 : k15 30003 = none := rfl
@[simp] theorem k15_30004 : k15 30004 = none := rfl
@[simp] theorem k15_30005 : k15 30005 = none := rfl
@[simp] theorem k15_30006 : k15 30006 = none := rfl
@[simp] theorem k15_30007 : k15 30007 = none := rfl
@[simp] theorem k15_30008 : k15 30008 = none := rfl
@[simp] theorem k15_9999 : k15 9999 = some [4] := rfl
def k16 : Nat → Option (List Nat)
  | 0 => some [0, 1]
  | 1 => some [1, 2]
  | 2 => some [1, 2, 5]
  | 3 => some [1, 2, 5]
  | 4 => some [1, 2, 5]
  | 5 => some [1, 2, 5, 6]
  | 6 => some []
  | 7 => some []
  | 20000 => some []
  | 20001 => some [1, 2, 5]
  | 9999 => some [4]
  | _ => none
@[simp] theorem k16_0 : k16 0 = some [0, 1] := rfl
@[simp] theorem k16_1 : k16 1 = some [1, 2] := rfl
@[simp] theorem k16_2 : k16 2 = some [1, 2, 5] := rfl
@[simp] theorem k16_3 : k16 3 = some [1, 2, 5] := rfl
@[simp] theorem k16_4 : k16 4 = some [1, 2, 5] := rfl
@[simp] theorem k16_5 : k16 5 = some [1, 2, 5, 6] := rfl
@[simp] theorem k16_6 : k16 6 = some [] := rfl
@[simp] theorem k16_7 : k16 7 = some [] := rfl
@[simp] theorem k16_20000 : k16 20000 = some [] := rfl
@[simp] theorem k16_20001 : k16 20001 = some [1, 2, 5] := rfl
@[simp] theorem k16_30000 : k16 30000 = none := rfl
@[simp] theorem k16_30001 : k16 30001 = none := rfl
@[simp] theorem k16_30002 : k16 30002 = none := rfl
@[simp] theorem k16_30003 : k16 30003 = none := rfl
@[simp] theorem k16_30004 : k16 30004 = none := rfl
@[simp] theorem k16_30005 : k16 30005 = none := rfl
@[simp] theorem k16_30006 : k16 30006 = none := rfl
@[simp] theorem k16_30007 : k16 30007 = none := rfl
@[simp] theorem k16_9999 : k16 9999 = some [4] := rfl
def k17 : Nat → Option (List Nat)
  | 0 => some [0, 1]
  | 1 => some [1, 2]
  | 2 => some [1, 2, 5]
  | 3 => some [1, 2, 5, 17, 18]
  | 4 => some [1, 2, 5, 17, 18]
  | 5 => some [1, 2, 5, 6, 17, 18]
  | 6 => some [1, 2, 5, 7, 8, 9, 17, 18]
  | 7 => some [1, 2, 5, 17, 18]
  | 8 => some [5]
  | 20000 => some [5]
  | 20001 => some [1, 2, 5, 17, 18]
  | 9999 => some [4]
  | _ => none
@[simp] theorem k17_0 : k17 0 = some [0, 1] := rfl
@[simp] theorem k17_1 : k17 1 = some [1, 2] := rfl
@[simp] theorem k17_2 : k17 2 = some [1, 2, 5] := rfl
@[simp] theorem k17_3 : k17 3 = some [1, 2, 5, 17, 18] := rfl
@[simp] theorem k17_4 : k17 4 = some [1, 2, 5, 17, 18] := rfl
@[simp] theorem k17_5 : k17 5 = some [1, 2, 5, 6, 17, 18] := rfl
@[simp] theorem k17_6 : k17 6 = some [1, 2, 5, 7, 8, 9, 17, 18] := rfl
@[simp] theorem k17_7 : k17 7 = some [1, 2, 5, 17, 18] := rfl
@[simp] theorem k17_8 : k17 8 = some [5] := rfl
@[simp] theorem k17_20000 : k17 20000 = some [5] := rfl
@[simp] theorem k17_20001 : k17 20001 = some [1, 2, 5, 17, 18] := rfl
@[simp] theorem k17_30000 : k17 30000 = none := rfl
@[simp] theorem k17_30001 : k17 30001 = none := rfl
@[simp] theorem k17_30002 : k17 30002 = none := rfl
@[simp] theorem k17_30003 : k17 30003 = none := rfl
@[simp] theorem k17_30004 : k17 30004 = none := rfl
@[simp] theorem k17_30005 : k17 30005 = none := rfl
@[simp] theorem k17_30006 : k17 30006 = none := rfl
@[simp] theorem k17_30007 : k17 30007 = none := rfl
@[simp] theorem k17_30008 : k17 30008 = none := rfl
@[simp] theorem k17_9999 : k17 9999 = some [4] := rfl
def k18 : Nat → Option (List Nat)
  | 0 => some [0, 1]
  | 1 => some [0, 1]
  | 2 => some [0, 1, 5]
  | 3 => some [0, 1, 5]
  | 4 => some [0, 1, 5]
  | 5 => some [0, 1, 5, 6]
  | 6 => some [0, 1, 5, 6]
  | 7 => some [0, 1, 5, 6]
  | 8 => some []
  | 9 => some []
  | 20000 => some []
  | 20001 => some [0, 1, 5]
  | 20002 => some [0, 1, 5]
  | 20003 => some [0, 1, 5, 6]
  | 9999 => some [4]
  | _ => none
@[simp] theorem k18_0 : k18 0 = some [0, 1] := rfl
@[simp] theorem k18_1 : k18 1 = some [0, 1] := rfl
@[simp] theorem k18_2 : k18 2 = some [0, 1, 5] := rfl
@[simp] theorem k18_3 : k18 3 = some [0, 1, 5] := rfl
@[simp] theorem k18_4 : k18 4 = some [0, 1, 5] := rfl
@[simp] theorem k18_5 : k18 5 = some [0, 1, 5, 6] := rfl
@[simp] theorem k18_6 : k18 6 = some [0, 1, 5, 6] := rfl
@[simp] theorem k18_7 : k18 7 = some [0, 1, 5, 6] := rfl
@[simp] theorem k18_8 : k18 8 = some [] := rfl
@[simp] theorem k18_9 : k18 9 = some [] := rfl
@[simp] theorem k18_20000 : k18 20000 = some [] := rfl
@[simp] theorem k18_20001 : k18 20001 = some [0, 1, 5] := rfl
@[simp] theorem k18_20002 : k18 20002 = some [0, 1, 5] := rfl
@[simp] theorem k18_20003 : k18 20003 = some [0, 1, 5, 6] := rfl
@[simp] theorem k18_30000 : k18 30000 = none := rfl
@[simp] theorem k18_30001 : k18 30001 = none := rfl
@[simp] theorem k18_30002 : k18 30002 = none := rfl
@[simp] theorem k18_30003 : k18 30003 = none := rfl
@[simp] theorem k18_30004 : k18 30004 = none := rfl
@[simp] theorem k18_30005 : k18 30005 = none := rfl
@[simp] theorem k18_30006 : k18 30006 = none := rfl
@[simp] theorem k18_30007 : k18 30007 = none := rfl
@[simp] theorem k18_30008 : k18 30008 = none := rfl
@[simp] theorem k18_30009 : k18 30009 = none := rfl
@[simp] theorem k18_9999 : k18 9999 = some [4] := rfl
def k19 : Nat → Option (List Nat)
  | 0 => some [0, 1, 2]
  | 1 => some [1, 2, 3]
  | 2 => some [2, 7]
  | 3 => some [7]
  | 4 => some [7]
  | 9999 => some [6]
  | _ => none
@[simp] theorem k19_0 : k19 0 = some [0, 1, 2] := rfl
@[simp] theorem k19_1 : k19 1 = some [1, 2, 3] := rfl
@[simp] theorem k19_2 : k19 2 = some [2, 7] := rfl
@[simp] theorem k19_3 : k19 3 = some [7] := rfl
@[simp] theorem k19_4 : k19 4 = some [7] := rfl
@[simp] theorem k19_30000 : k19 30000 = none := rfl
@[simp] theorem k19_30001 : k19 30001 = none := rfl
@[simp] theorem k19_30002 : k19 30002 = none := rfl
@[simp] theorem k19_30003 : k19 30003 = none := rfl
@[simp] theorem k19_30004 : k19 30004 = none := rfl
@[simp] theorem k19_9999 : k19 9999 = some [6] := rfl
def k20 : Nat → Option (List Nat)
  | 0 => some [0, 1]
  | 1 => some [0, 1]
  | 2 => some []
  | 3 => some [0, 1]
  | 4 => some [0, 1]
  | 5 => some [0, 1]
  | 9999 => some [4]
  | _ => none
@[simp] theorem k20_0 : k20 0 = some [0, 1] := rfl
@[simp] theorem k20_1 : k20 1 = some [0, 1] := rfl
@[simp] theorem k20_2 : k20 2 = some [] := rfl
@[simp] theorem k20_3 : k20 3 = some [0, 1] := rfl
@[simp] theorem k20_4 : k20 4 = some [0, 1] := rfl
@[simp] theorem k20_5 : k20 5 = some [0, 1] := rfl
@[simp] theorem k20_30000 : k20 30000 = none := rfl
@[simp] theorem k20_30001 : k20 30001 = none := rfl
@[simp] theorem k20_30002 : k20 30002 = none := rfl
@[simp] theorem k20_30003 : k20 30003 = none := rfl
@[simp] theorem k20_30004 : k20 30004 = none := rfl
@[simp] theorem k20_30005 : k20 30005 = none := rfl
@[simp] theorem k20_9999 : k20 9999 = some [4] := rfl
def k21 : Nat → Option (List Nat)
  | 0 => some [0]
  | 1 => some [1]
  | 2 => some [1, 3]
  | 3 => some [3, 4]
  | 9999 => some [2]
  | _ => none
@[simp] theorem k21_0 : k21 0 = some [0] := rfl
@[simp] theorem k21_1 : k21 1 = some [1] := rfl
@[simp] theorem k21_2 : k21 2 = some [1, 3] := rfl
@[simp] theorem k21_3 : k21 3 = some [3, 4] := rfl
@[simp] theorem k21_30000 : k21 30000 = none := rfl
@[simp] theorem k21_30001 : k21 30001 = none := rfl
@[simp] theorem k21_30002 : k21 30002 = none := rfl
@[simp] theorem k21_30003 : k21 30003 = none := rfl
@[simp] theorem k21_9999 : k21 9999 = some [2] := rfl
def k22 : Nat → Option (List Nat)
  | 0 => some [0, 1]
  | 1 => some [1, 2]
  | 2 => some []
  | 3 => some [1, 2]
  | 4 => some [1, 2, 6]
  | 5 => some [1, 2, 6, 7]
  | 6 => some [1, 2, 6, 7]
  | 7 => some [1, 2, 6, 7]
  | 8 => some [1, 2, 6, 7]
  | 9 => some [1, 2, 6, 7, 26]
  | 10 => some [1, 2, 6, 7]
  | 11 => some [1, 2, 6, 7, 26]
  | 12 => some [1, 2, 6, 7]
  | 13 => some [6]
  | 20000 => some [6]
  | 20001 => some [1, 2, 6, 7]
  | 20002 => some [1, 2, 6, 7]
  | 9999 => some [4, 5]
  | _ => none
@[simp] theorem k22_0 : k22 0 = some [0, 1] := rfl
@[simp] theorem k22_1 : k22 1 = some [1, 2] := rfl
@[simp] theorem k22_2 : k22 2 = some [] := rfl
@[simp] theorem k22_3 : k22 3 = some [1, 2] := rfl
@[simp] theorem k22_4 : k22 4 = some [1, 2, 6] := rfl
@[simp] theorem k22_5 : k22 5 = some [1, 2, 6, 7] := rfl
@[simp] theorem k22_6 : k22 6 = some [1, 2, 6, 7] := rfl
@[simp] theorem k22_7 : k22 7 = some [1, 2, 6, 7] := rfl
@[simp] theorem k22_8 : k22 8 = some [1, 2, 6, 7] := rfl
@[simp] theorem k22_9 : k22 9 = some [1, 2, 6, 7, 26] := rfl
@[simp] theorem k22_10 : k22 10 = some [1, 2, 6, 7] := rfl
@[simp] theorem k22_11 : k22 11 = some [1, 2, 6, 7, 26] := rfl
@[simp] theorem k22_12 : k22 12 = some [1, 2, 6, 7] := rfl
@[simp] theorem k22_13 : k22 13 = some [6] := rfl
@[simp] theorem k22_20000 : k22 20000 = some [6] := rfl
@[simp] theorem k22_20001 : k22 20001 = some [1, 2, 6, 7] := rfl
@[simp] theorem k22_20002 : k22 20002 = some [1, 2, 6, 7] := rfl
@[simp] theorem k22_30000 : k22 30000 = none := rfl
@[simp] theorem k22_30001 : k22 30001 = none := rfl
@[simp] theorem k22_30002 : k22 30002 = none := rfl
@[simp] theorem k22_30003 : k22 30003 = none := rfl
@[simp] theorem k22_30004 : k22 30004 = none := rfl
@[simp] theorem k22_30005 : k22 30005 = none := rfl
@[simp] theorem k22_30006 : k22 30006 = none := rfl
@[simp] theorem k22_30007 : k22 30007 = none := rfl
@[simp] theorem k22_30008 : k22 30008 = none := rfl
@[simp] theorem k22_30009 : k22 30009 = none := rfl
@[simp] theorem k22_30010 : k22 30010 = none := rfl
@[simp] theorem k22_30011 : k22 30011 = none := rfl
@[simp] theorem k22_30012 : k22 30012 = none := rfl
@[simp] theorem k22_30013 : k22 30013 = none := rfl
@[simp] theorem k22_9999 : k22 9999 = some [4, 5] := rfl
def k23 : Nat → Option (List Nat)
  | 0 => some [0]
  | 1 => some [1]
  | 2 => some [1, 3]
  | 3 => some [1, 3, 7, 8, 9]
  | 4 => some [1, 3, 7, 8, 9]
  | 5 => some [1, 3, 4, 5, 7, 8, 9]
  | 6 => some [1, 3, 4, 5, 7, 8, 9]
  | 7 => some [1, 3, 7, 8, 9]
  | 8 => some [3]
  | 20000 => some [3]
  | 20001 => some [1, 3, 7, 8, 9]
  | 9999 => some [2]
  | _ => none
@[simp] theorem k23_0 : k23 0 = some [0] := rfl
@[simp] theorem k23_1 : k23 1 = some [1] := rfl
@[simp] theorem k23_2 : k23 2 = some [1, 3] := rfl
@[simp] theorem k23_3 : k23 3 = some [1, 3, 7, 8, 9] := rfl
@[simp] theorem k23_4 : k23 4 = some [1, 3, 7, 8, 9] := rfl
@[simp] theorem k23_5 : k23 5 = some [1, 3, 4, 5, 7, 8, 9] := rfl
@[simp] theorem k23_6 : k23 6 = some [1, 3, 4, 5, 7, 8, 9] := rfl
@[simp] theorem k23_7 : k23 7 = some [1, 3, 7, 8, 9] := rfl
@[simp] theorem k23_8 : k23 8 = some [3] := rfl
@[simp] theorem k23_20000 : k23 20000 = some [3] := rfl
@[simp] theorem k23_20001 : k23 20001 = some [1, 3, 7, 8, 9] := rfl
@[simp] theorem k23_30000 : k23 30000 = none := rfl
@[simp] theorem k23_30001 : k23 30001 = none := rfl
@[simp] theorem k23_30002 : k23 30002 = none := rfl
@[simp] theorem k23_30003 : k23 30003 = none := rfl
@[simp] theorem k23_30004 : k23 30004 = none := rfl
@[simp] theorem k23_30005 : k23 30005 = none := rfl
@[simp] theorem k23_30006 : k23 30006 = none := rfl
@[simp] theorem k23_30007 : k23 30007 = none := rfl
@[simp] theorem k23_30008 : k23 30008 = none := rfl
@[simp] theorem k23_9999 : k23 9999 = some [2] := rfl
def k24 : Nat → Option (List Nat)
  | 0 => some [0, 1]
  | 1 => some [1, 2, 4]
  | 9999 => some [4]
  | _ => none
@[simp] theorem k24_0 : k24 0 = some [0, 1] := rfl
@[simp] theorem k24_1 : k24 1 = some [1, 2, 4] := rfl
@[simp] theorem k24_30000 : k24 30000 = none := rfl
@[simp] theorem k24_30001 : k24 30001 = none := rfl
@[simp] theorem k24_9999 : k24 9999 = some [4] := rfl
def k25 : Nat → Option (List Nat)
  | 0 => some [0, 1]
  | 1 => some [1, 2]
  | 9999 => some [4]
  | _ => none
@[simp] theorem k25_0 : k25 0 = some [0, 1] := rfl
@[simp] theorem k25_1 : k25 1 = some [1, 2] := rfl
@[simp] theorem k25_30000 : k25 30000 = none := rfl
@[simp] theorem k25_30001 : k25 30001 = none := rfl
@[simp] theorem k25_9999 : k25 9999 = some [4] := rfl
def k26 : Nat → Option (List Nat)
  | 0 => some [0, 1]
  | 1 => some [1, 2]
  | 9999 => some [4]
  | _ => none
@[simp] theorem k26_0 : k26 0 = some [0, 1] := rfl
@[simp] theorem k26_1 : k26 1 = some [1, 2] := rfl
@[simp] theorem k26_30000 : k26 30000 = none := rfl
@[simp] theorem k26_30001 : k26 30001 = none := rfl
@[simp] theorem k26_9999 : k26 9999 = some [4] := rfl
def k27 : Nat → Option (List Nat)
  | 0 => some [0, 1, 2]
  | 1 => some [1, 2, 3]
  | 2 => some [2, 7]
  | 3 => some [7]
  | 4 => some [7]
  | 9999 => some [6]
  | _ => none
@[simp] theorem k27_0 : k27 0 = some [0, 1, 2] := rfl
@[simp] theorem k27_1 : k27 1 = some [1, 2, 3] := rfl
@[simp] theorem k27_2 : k27 2 = some [2, 7] := rfl
@[simp] theorem k27_3 : k27 3 = some [7] := rfl
@[simp] theorem k27_4 : k27 4 = some [7] := rfl
@[simp] theorem k27_30000 : k27 30000 = none := rfl
@[simp] theorem k27_30001 : k27 30001 = none := rfl
@[simp] theorem k27_30002 : k27 30002 = none := rfl
@[simp] theorem k27_30003 : k27 30003 = none := rfl
@[simp] theorem k27_30004 : k27 30004 = none := rfl
@[simp] theorem k27_9999 : k27 9999 = some [6] := rfl
def k28 : Nat → Option (List Nat)
  | 0 => some [0, 1]
  | 1 => some [0, 1]
  | 2 => some []
  | 3 => some [0, 1]
  | 4 => some [0, 1, 5]
  | 5 => some [0, 1, 5]
  | 6 => some [0, 1, 5]
  | 7 => some []
  | 8 => some [0, 1, 5]
  | 9 => some [0, 1, 5, 6]
  | 10 => some [0, 1, 5, 6]
  | 11 => some [0, 1, 5, 6]
  | 12 => some []
  | 13 => some []
  | 20000 => some []
  | 20001 => some [0, 1, 5]
  | 20002 => some [0, 1, 5]
  | 20003 => some [0, 1, 5, 6]
  | 9999 => some [4]
  | _ => none
@[simp] theorem k28_0 : k28 0 = some [0, 1] := rfl
@[simp] theorem k28_1 : k28 1 = some [0, 1] := rfl
@[simp] theorem k28_2 : k28 2 = some [] := rfl
@[simp] theorem k28_3 : k28 3 = some [0, 1] := rfl
@[simp] theorem k28_4 : k28 4 = some [0, 1, 5] := rfl
@[simp] theorem k28_5 : k28 5 = some [0, 1, 5] := rfl
@[simp] theorem k28_6 : k28 6 = some [0, 1, 5] := rfl
@[simp] theorem k28_7 : k28 7 = some [] := rfl
@[simp] theorem k28_8 : k28 8 = some [0, 1, 5] := rfl
@[simp] theorem k28_9 : k28 9 = some [0, 1, 5, 6] := rfl
@[simp] theorem k28_10 : k28 10 = some [0, 1, 5, 6] := rfl
@[simp] theorem k28_11 : k28 11 = some [0, 1, 5, 6] := rfl
@[simp] theorem k28_12 : k28 12 = some [] := rfl
@[simp] theorem k28_13 : k28 13 = some [] := rfl
@[simp] theorem k28_20000 : k28 20000 = some [] := rfl
@[simp] theorem k28_20001 : k28 20001 = some [0, 1, 5] := rfl
@[simp] theorem k28_20002 : k28 20002 = some [0, 1, 5] := rfl
@[simp] theorem k28_20003 : k28 20003 = some [0, 1, 5, 6] := rfl
@[simp] theorem k28_30000 : k28 30000 = none := rfl
@[simp] theorem k28_30001 : k28 30001 = none := rfl
@[simp] theorem k28_30002 : k28 30002 = none := rfl
@[simp] theorem k28_30003 : k28 30003 = none := rfl
@[simp] theorem k28_30004 : k28 30004 = none := rfl
@[simp] theorem k28_30005 : k28 30005 = none := rfl
@[simp] theorem k28_30006 : k28 30006 = none := rfl
@[simp] theorem k28_30007 : k28 30007 = none := rfl
@[simp] theorem k28_30008 : k28 30008 = none := rfl
@[simp] theorem k28_30009 : k28 30009 = none := rfl
@[simp] theorem k28_30010 : k28 30010 = none := rfl
@[simp] theorem k28_30011 : k28 30011 = none := rfl
@[simp] theorem k28_30012 : k28 30012 = none := rfl
@[simp] theorem k28_30013 : k28 30013 = none := rfl
@[simp] theorem k28_9999 : k28 9999 = some [4] := rfl
def k29 : Nat → Option (List Nat)
  | 0 => some [0, 1]
  | 1 => some [1, 2]
  | 2 => some [1, 2, 5]
  | 3 => some [1, 2, 5, 6]
  | 4 => some [1, 2, 5, 6]
  | 5 => some [1, 2, 5, 6]
  | 6 => some [1, 2, 5, 6, 7]
  | 7 => some [1, 2, 5, 6, 7, 8]
  | 8 => some [1, 2, 5, 6, 7, 8, 9]
  | 9 => some [5]
  | 20000 => some [5]
  | 20001 => some [1, 2, 5, 6]
  | 9999 => some [4]
  | _ => none
@[simp] theorem k29_0 : k29 0 = some [0, 1] := rfl
@[simp] theorem k29_1 : k29 1 = some [1, 2] := rfl
@[simp] theorem k29_2 : k29 2 = some [1, 2, 5] := rfl
@[simp] theorem k29_3 : k29 3 = some [1, 2, 5, 6] := rfl
@[simp] theorem k29_4 : k29 4 = some [1, 2, 5, 6] := rfl
@[simp] theorem k29_5 : k29 5 = some [1, 2, 5, 6] := rfl
@[simp] theorem k29_6 : k29 6 = some [1, 2, 5, 6, 7] := rfl
@[simp] theorem k29_7 : k29 7 = some [1, 2, 5, 6, 7, 8] := rfl
@[simp] theorem k29_8 : k29 8 = some [1, 2, 5, 6, 7, 8, 9] := rfl
@[simp] theorem k29_9 : k29 9 = some [5] := rfl
@[simp] theorem k29_20000 : k29 20000 = some [5] := rfl
@[simp] theorem k29_20001 : k29 20001 = some [1, 2, 5, 6] := rfl
@[simp] theorem k29_30000 : k29 30000 = none := rfl
@[simp] theorem k29_30001 : k29 30001 = none := rfl
@[simp] theorem k29_30002 : k29 30002 = none := rfl
@[simp] theorem k29_30003 : k29 30003 = none := rfl
@[simp] theorem k29_30004 : k29 30004 = none := rfl
@[simp] theorem k29_30005 : k29 30005 = none := rfl
@[simp] theorem k29_30006 : k29 30006 = none := rfl
@[simp] theorem k29_30007 : k29 30007 = none := rfl
@[simp] theorem k29_30008 : k29 30008 = none := rfl
@[simp] theorem k29_30009 : k29 30009 = none := rfl
@[simp] theorem k29_9999 : k29 9999 = some [4] := rfl
def k30 : Nat → Option (List Nat)
  | 0 => some [0]
  | 1 => some [1]
  | 2 => some [1, 3]
  | 3 => some [1, 3, 9, 10, 11]
  | 4 => some [1, 3, 9, 10, 11]
  | 5 => some [1, 3, 4, 5, 9, 10, 11]
  | 6 => some [1, 3, 6, 7, 9, 10, 11]
  | 7 => some [1, 3, 9, 10, 11]
  | 8 => some [3]
  | 20000 => some [3]
  | 20001 => some [1, 3, 9, 10, 11]
  | 9999 => some [2]
  | _ => none
@[simp] theorem k30_0 : k30 0 = some [0] := rfl
@[simp] theorem k30_1 : k30 1 = some [1] := rfl
@[simp] theorem k30_2 : k30 2 = some [1, 3] := rfl
@[simp] theorem k30_3 : k30 3 = some [1, 3, 9, 10, 11] := rfl
@[simp] theorem k30_4 : k30 4 = some [1, 3, 9, 10, 11] := rfl
@[simp] theorem k30_5 : k30 5 = some [1, 3, 4, 5, 9, 10, 11] := rfl
@[simp] theorem k30_6 : k30 6 = some [1, 3, 6, 7, 9, 10, 11] := rfl
@[simp] theorem k30_7 : k30 7 = some [1, 3, 9, 10, 11] := rfl
@[simp] theorem k30_8 : k30 8 = some [3] := rfl
@[simp] theorem k30_20000 : k30 20000 = some [3] := rfl
@[simp] theorem k30_20001 : k30 20001 = some [1, 3, 9, 10, 11] := rfl
@[simp] theorem k30_30000 : k30 30000 = none := rfl
@[simp] theorem k30_30001 : k30 30001 = none := rfl
@[simp] theorem k30_30002 : k30 30002 = none := rfl
@[simp] theorem k30_30003 : k30 30003 = none := rfl
@[simp] theorem k30_30004 : k30 30004 = none := rfl
@[simp] theorem k30_30005 : k30 30005 = none := rfl
@[simp] theorem k30_30006 : k30 30006 = none := rfl
@[simp] theorem k30_30007 : k30 30007 = none := rfl
@[simp] theorem k30_30008 : k30 30008 = none := rfl
@[simp] theorem k30_9999 : k30 9999 = some [2] := rfl
def k31 : Nat → Option (List Nat)
  | 0 => some [0]
  | 1 => some [1]
  | 2 => some [1, 3]
  | 3 => some [1, 3, 4]
  | 4 => some [1, 3, 4]
  | 5 => some [1, 3, 4]
  | 6 => some [1, 3, 4, 5]
  | 7 => some [1, 3, 4, 5, 6]
  | 8 => some [3]
  | 20000 => some [3]
  | 20001 => some [1, 3, 4]
  | 9999 => some [2]
  | _ => none
@[simp] theorem k31_0 : k31 0 = some [0] := rfl
@[simp] theorem k31_1 : k31 1 = some [1] := rfl
@[simp] theorem k31_2 : k31 2 = some [1, 3] := rfl
@[simp] theorem k31_3 : k31 3 = some [1, 3, 4] := rfl
@[simp] theorem k31_4 : k31 4 = some [1, 3, 4] := rfl
@[simp] theorem k31_5 : k31 5 = some [1, 3, 4] := rfl
@[simp] theorem k31_6 : k31 6 = some [1, 3, 4, 5] := rfl
@[simp] theorem k31_7 : k31 7 = some [1, 3, 4, 5, 6] := rfl
@[simp] theorem k31_8 : k31 8 = some [3] := rfl
@[simp] theorem k31_20000 : k31 20000 = some [3] := rfl
@[simp] theorem k31_20001 : k31 20001 = some [1, 3, 4] := rfl
@[simp] theorem k31_30000 : k31 30000 = none := rfl
@[simp] theorem k31_30001 : k31 30001 = none := rfl
@[simp] theorem k31_30002 : k31 30002 = none := rfl
@[simp] theorem k31_30003 : k31 30003 = none := rfl
@[simp] theorem k31_30004 : k31 30004 = none := rfl
@[simp] theorem k31_30005 : k31 30005 = none := rfl
@[simp] theorem k31_30006 : k31 30006 = none := rfl
@[simp] theorem k31_30007 : k31 30007 = none := rfl
@[simp] theorem k31_30008 : k31 30008 = none := rfl
@[simp] theorem k31_9999 : k31 9999 = some [2] := rfl
def k32 : Nat → Option (List Nat)
  | 0 => some [0]
  | 1 => some [1]
  | 2 => some [1, 3]
  | 3 => some [1, 3, 4]
  | 4 => some [1, 3, 4]
  | 5 => some [1, 3, 4]
  | 6 => some [1, 3, 4, 5]
  | 7 => some [1, 3, 4, 5]
  | 8 => some [1, 3, 4, 5]
  | 9 => some [1, 3, 4, 5]
  | 10 => some [3]
  | 20000 => some [3]
  | 20001 => some [1, 3, 4]
  | 9999 => some [2]
  | _ => none
@[simp] theorem k32_0 : k32 0 = some [0] := rfl
@[simp] theorem k32_1 : k32 1 = some [1] := rfl
@[simp] theorem k32_2 : k32 2 = some [1, 3] := rfl
@[simp] theorem k32_3 : k32 3 = some [1, 3, 4] := rfl
@[simp] theorem k32_4 : k32 4 = some [1, 3, 4] := rfl
@[simp] theorem k32_5 : k32 5 = some [1, 3, 4] := rfl
@[simp] theorem k32_6 : k32 6 = some [1, 3, 4, 5] := rfl
@[simp] theorem k32_7 : k32 7 = some [1, 3, 4, 5] := rfl
@[simp] theorem k32_8 : k32 8 = some [1, 3, 4, 5] := rfl
@[simp] theorem k32_9 : k32 9 = some [1, 3, 4, 5] := rfl
@[simp] theorem k32_10 : k32 10 = some [3] := rfl
@[simp] theorem k32_20000 : k32 20000 = some [3] := rfl
@[simp] theorem k32_20001 : k32 20001 = some [1, 3, 4] := rfl
@[simp] theorem k32_30000 : k32 30000 = none := rfl
@[simp] theorem k32_30001 : k32 30001 = none := rfl
@[simp] theorem k32_30002 : k32 30002 = none := rfl
@[simp] theorem k32_30003 : k32 30003 = none := rfl
@[simp] theorem k32_30004 : k32 30004 = none := rfl
@[simp] theorem k32_30005 : k32 30005 = none := rfl
@[simp] theorem k32_30006 : k32 30006 = none := rfl
@[simp] theorem k32_30007 : k32 30007 = none := rfl
@[simp] theorem k32_30008 : k32 30008 = none := rfl
@[simp] theorem k32_30009 : k32 30009 = none := rfl
@[simp] theorem k32_30010 : k32 30010 = none := rfl
@[simp] theorem k32_9999 : k32 9999 = some [2] := rfl
def k33 : Nat → Option (List Nat)
  | 0 => some [0, 1, 2]
  | 1 => some [1, 2, 3, 7]
  | 2 => some [3, 7, 9, 10]
  | 3 => some [7, 10]
  | 4 => some [3, 7, 9]
  | 5 => some [3, 7, 9, 11]
  | 6 => some [3, 7, 9, 11, 12]
  | 7 => some [3, 7, 9, 11, 12]
  | 8 => some [3, 7, 9, 11, 12]
  | 9 => some [3, 7, 9, 11]
  | 20000 => some [3, 7, 9, 11]
  | 20001 => some [3, 7, 9, 11, 12]
  | 9999 => some [6, 7, 8]
  | _ => none
@[simp] theorem k33_0 : k33 0 = some [0, 1, 2] := rfl
@[simp] theorem k33_1 : k33 1 = some [1, 2, 3, 7] := rfl
@[simp] theorem k33_2 : k33 2 = some [3, 7, 9, 10] := rfl
@[simp] theorem k33_3 : k33 3 = some [7, 10] := rfl
@[simp] theorem k33_4 : k33 4 = some [3, 7, 9] := rfl
@[simp] theorem k33_5 : k33 5 = some [3, 7, 9, 11] := rfl
@[simp] theorem k33_6 : k33 6 = some [3, 7, 9, 11, 12] := rfl
@[simp] theorem k33_7 : k33 7 = some [3, 7, 9, 11, 12] := rfl
@[simp] theorem k33_8 : k33 8 = some [3, 7, 9, 11, 12] := rfl
@[simp] theorem k33_9 : k33 9 = some [3, 7, 9, 11] := rfl
@[simp] theorem k33_20000 : k33 20000 = some [3, 7, 9, 11] := rfl
@[simp] theorem k33_20001 : k33 20001 = some [3, 7, 9, 11, 12] := rfl
@[simp] theorem k33_30000 : k33 30000 = none := rfl
@[simp] theorem k33_30001 : k33 30001 = none := rfl
@[simp] theorem k33_30002 : k33 30002 = none := rfl
@[simp] theorem k33_30003 : k33 30003 = none := rfl
@[simp] theorem k33_30004 : k33 30004 = none := rfl
@[simp] theorem k33_30005 : k33 30005 = none := rfl
@[simp] theorem k33_30006 : k33 30006 = none := rfl
@[simp] theorem k33_30007 : k33 30007 = none := rfl
@[simp] theorem k33_30008 : k33 30008 = none := rfl
@[simp] theorem k33_30009 : k33 30009 = none := rfl
@[simp] theorem k33_9999 : k33 9999 = some [6, 7, 8] := rfl
def k34 : Nat → Option (List Nat)
  | 0 => some [0, 1]
  | 1 => some [1, 2, 4]
  | 2 => some [1, 2, 4, 5]
  | 9999 => some [4]
  | _ => none
@[simp] theorem k34_0 : k34 0 = some [0, 1] := rfl
@[simp] theorem k34_1 : k34 1 = some [1, 2, 4] := rfl
@[simp] theorem k34_2 : k34 2 = some [1, 2, 4, 5] := rfl
@[simp] theorem k34_30000 : k34 30000 = none := rfl
@[simp] theorem k34_30001 : k34 30001 = none := rfl
@[simp] theorem k34_30002 : k34 30002 = none := rfl
@[simp] theorem k34_9999 : k34 9999 = some [4] := rfl
def k35 : Nat → Option (List Nat)
  | 0 => some [0, 1, 2]
  | 1 => some [1, 2, 3, 6]
  | 9999 => some [6]
  | _ => none
@[simp] theorem k35_0 : k35 0 = some [0, 1, 2] := rfl
@[simp] theorem k35_1 : k35 1 = some [1, 2, 3, 6] := rfl
@[simp] theorem k35_30000 : k35 30000 = none := rfl
@[simp] theorem k35_30001 : k35 30001 = none := rfl
@[simp] theorem k35_9999 : k35 9999 = some [6] := rfl
def k36 : Nat → Option (List Nat)
  | 0 => some [0]
  | 1 => some [1]
  | 2 => some []
  | 3 => some [1]
  | 4 => some [1, 3]
  | 5 => some [1, 3]
  | 6 => some [1, 3]
  | 7 => some []
  | 8 => some [1, 3]
  | 9 => some [1, 3, 4]
  | 10 => some [1, 3, 4]
  | 11 => some [1, 3, 4]
  | 12 => some [1, 3, 4, 5]
  | 13 => some []
  | 14 => some []
  | 20000 => some []
  | 20001 => some [1, 3]
  | 20002 => some [1, 3]
  | 20003 => some [1, 3, 4]
  | 9999 => some [2]
  | _ => none
@[simp] theorem k36_0 : k36 0 = some [0] := rfl
@[simp] theorem k36_1 : k36 1 = some [1] := rfl
@[simp] theorem k36_2 : k36 2 = some [] := rfl
@[simp] theorem k36_3 : k36 3 = some [1] := rfl
@[simp] theorem k36_4 : k36 4 = some [1, 3] := rfl
@[simp] theorem k36_5 : k36 5 = some [1, 3] := rfl
@[simp] theorem k36_6 : k36 6 = some [1, 3] := rfl
@[simp] theorem k36_7 : k36 7 = some [] := rfl
@[simp] theorem k36_8 : k36 8 = some [1, 3] := rfl
@[simp] theorem k36_9 : k36 9 = some [1, 3, 4] := rfl
@[simp] theorem k36_10 : k36 10 = some [1, 3, 4] := rfl
@[simp] theorem k36_11 : k36 11 = some [1, 3, 4] := rfl
@[simp] theorem k36_12 : k36 12 = some [1, 3, 4, 5] := rfl
@[simp] theorem k36_13 : k36 13 = some [] := rfl
@[simp] theorem k36_14 : k36 14 = some [] := rfl
@[simp] theorem k36_20000 : k36 20000 = some [] := rfl
@[simp] theorem k36_20001 : k36 20001 = some [1, 3] := rfl
@[simp] theorem k36_20002 : k36 20002 = some [1, 3] := rfl
@[simp] theorem k36_20003 : k36 20003 = some [1, 3, 4] := rfl
@[simp] theorem k36_30000 : k36 30000 = none := rfl
@[simp] theorem k36_30001 : k36 30001 = none := rfl
@[simp] theorem k36_30002 : k36 30002 = none := rfl
@[simp] theorem k36_30003 : k36 30003 = none := rfl
@[simp] theorem k36_30004 : k36 30004 = none := rfl
@[simp] theorem k36_30005 : k36 30005 = none := rfl
@[simp] theorem k36_30006 : k36 30006 = none := rfl
@[simp] theorem k36_30007 : k36 30007 = none := rfl
@[simp] theorem k36_30008 : k36 30008 = none := rfl
@[simp] theorem k36_30009 : k36 30009 = none := rfl
@[simp] theorem k36_30010 : k36 30010 = none := rfl
@[simp] theorem k36_30011 : k36 30011 = none := rfl
@[simp] theorem k36_30012 : k36 30012 = none := rfl
@[simp] theorem k36_30013 : k36 30013 = none := rfl
@[simp] theorem k36_30014 : k36 30014 = none := rfl
@[simp] theorem k36_9999 : k36 9999 = some [2] := rfl
def k37 : Nat → Option (List Nat)
  | 0 => some [0, 1]
  | 1 => some [2, 3]
  | 2 => some []
  | 3 => some [2, 3]
  | 4 => some [2, 3, 5]
  | 5 => some [2, 3, 5]
  | 6 => some [2, 3, 5]
  | 7 => some [2, 3, 5, 6]
  | 8 => some []
  | 9 => some []
  | 20000 => some []
  | 20001 => some [2, 3, 5]
  | 9999 => some [4]
  | _ => none
@[simp] theorem k37_0 : k37 0 = some [0, 1] := rfl
@[simp] theorem k37_1 : k37 1 = some [2, 3] := rfl
@[simp] theorem k37_2 : k37 2 = some [] := rfl
@[simp] theorem k37_3 : k37 3 = some [2, 3] := rfl
@[simp] theorem k37_4 : k37 4 = some [2, 3, 5] := rfl
@[simp] theorem k37_5 : k37 5 = some [2, 3, 5] := rfl
@[simp] theorem k37_6 : k37 6 = some [2, 3, 5] := rfl
@[simp] theorem k37_7 : k37 7 = some [2, 3, 5, 6] := rfl
@[simp] theorem k37_8 : k37 8 = some [] := rfl
@[simp] theorem k37_9 : k37 9 = some [] := rfl
@[simp] theorem k37_20000 : k37 20000 = some [] := rfl
@[simp] theorem k37_20001 : k37 20001 = some [2, 3, 5] := rfl
@[simp] theorem k37_30000 : k37 30000 = none := rfl
@[simp] theorem k37_30001 : k37 30001 = none := rfl
@[simp] theorem k37_30002 : k37 30002 = none := rfl
@[simp] theorem k37_30003 : k37 30003 = none := rfl
@[simp] theorem k37_30004 : k37 30004 = none := rfl
@[simp] theorem k37_30005 : k37 30005 = none := rfl
@[simp] theorem k37_30006 : k37 30006 = none := rfl
@[simp] theorem k37_30007 : k37 30007 = none := rfl
@[simp] theorem k37_30008 : k37 30008 = none := rfl
@[simp] theorem k37_30009 : k37 30009 = none := rfl
@[simp] theorem k37_9999 : k37 9999 = some [4] := rfl
def k38 : Nat → Option (List Nat)
  | 0 => some [0, 1]
  | 1 => some [1, 2, 4]
  | 2 => some [1, 2, 4, 5]
  | 9999 => some [4]
  | _ => none
@[simp] theorem k38_0 : k38 0 = some [0, 1] := rfl
@[simp] theorem k38_1 : k38 1 = some [1, 2, 4] := rfl
@[simp] theorem k38_2 : k38 2 = some [1, 2, 4, 5] := rfl
@[simp] theorem k38_30000 : k38 30000 = none := rfl
@[simp] theorem k38_30001 : k38 30001 = none := rfl
@[simp] theorem k38_30002 : k38 30002 = none := rfl
@[simp] theorem k38_9999 : k38 9999 = some [4] := rfl
def k39 : Nat → Option (List Nat)
  | 0 => some [0, 1]
  | 1 => some [1, 2, 4]
  | 2 => some [1, 2, 4, 5]
  | 3 => some [1, 2, 4, 6]
  | 30002 => some [2]
  | 9999 => some [4]
  | _ => none
@[simp] theorem k39_0 : k39 0 = some [0, 1] := rfl
@[simp] theorem k39_1 : k39 1 = some [1, 2, 4] := rfl
@[simp] theorem k39_2 : k39 2 = some [1, 2, 4, 5] := rfl
@[simp] theorem k39_3 : k39 3 = some [1, 2, 4, 6] := rfl
@[simp] theorem k39_30002 : k39 30002 = some [2] := rfl
@[simp] theorem k39_30000 : k39 30000 = none := rfl
@[simp] theorem k39_30001 : k39 30001 = none := rfl
@[simp] theorem k39_30003 : k39 30003 = none := rfl
@[simp] theorem k39_9999 : k39 9999 = some [4] := rfl
def k40 : Nat → Option (List Nat)
  | 0 => some [0, 1, 2]
  | 1 => some [1, 2, 3, 6]
  | 2 => some [1, 2, 3, 6, 7]
  | 9999 => some [6]
  | _ => none
@[simp] theorem k40_0 : k40 0 = some [0, 1, 2] := rfl
@[simp] theorem k40_1 : k40 1 = some [1, 2, 3, 6] := rfl
@[simp] theorem k40_2 : k40 2 = some [1, 2, 3, 6, 7] := rfl
@[simp] theorem k40_30000 : k40 30000 = none := rfl
@[simp] theorem k40_30001 : k40 30001 = none := rfl
@[simp] theorem k40_30002 : k40 30002 = none := rfl
@[simp] theorem k40_9999 : k40 9999 = some [6] := rfl
def k41 : Nat → Option (List Nat)
  | 0 => some [0, 1, 2]
  | 1 => some [1, 2, 3]
  | 2 => some [1, 2, 3, 7]
  | 3 => some [1, 3, 7, 13, 14, 15]
  | 4 => some [1, 3, 7, 13, 14, 15]
  | 5 => some [1, 3, 7, 8, 9, 13, 14, 15]
  | 6 => some [1, 3, 7, 13, 14, 15]
  | 7 => some [7]
  | 20000 => some [7]
  | 20001 => some [1, 3, 7, 13, 14, 15]
  | 9999 => some [6]
  | _ => none
@[simp] theorem k41_0 : k41 0 = some [0, 1, 2] := rfl
@[simp] theorem k41_1 : k41 1 = some [1, 2, 3] := rfl
@[simp] theorem k41_2 : k41 2 = some [1, 2, 3, 7] := rfl
@[simp] theorem k41_3 : k41 3 = some [1, 3, 7, 13, 14, 15] := rfl
@[simp] theorem k41_4 : k41 4 = some [1, 3, 7, 13, 14, 15] := rfl
@[simp] theorem k41_5 : k41 5 = some [1, 3, 7, 8, 9, 13, 14, 15] := rfl
@[simp] theorem k41_6 : k41 6 = some [1, 3, 7, 13, 14, 15] := rfl
@[simp] theorem k41_7 : k41 7 = some [7] := rfl
@[simp] theorem k41_20000 : k41 20000 = some [7] := rfl
@[simp] theorem k41_20001 : k41 20001 = some [1, 3, 7, 13, 14, 15] := rfl
@[simp] theorem k41_30000 : k41 30000 = none := rfl
@[simp] theorem k41_30001 : k41 30001 = none := rfl
@[simp] theorem k41_30002 : k41 30002 = none := rfl
@[simp] theorem k41_30003 : k41 30003 = none := rfl
@[simp] theorem k41_30004 : k41 30004 = none := rfl
@[simp] theorem k41_30005 : k41 30005 = none := rfl
@[simp] theorem k41_30006 : k41 30006 = none := rfl
@[simp] theorem k41_30007 : k41 30007 = none := rfl
@[simp] theorem k41_9999 : k41 9999 = some [6] := rfl
def k42 : Nat → Option (List Nat)
  | 0 => some [0, 1]
  | 1 => some [1, 2]
  | 2 => some []
  | 3 => some [2]
  | 4 => some [2, 5]
  | 5 => some [2, 5]
  | 6 => some [2, 5]
  | 7 => some []
  | 8 => some []
  | 20000 => some []
  | 20001 => some [2, 5]
  | 9999 => some [4]
  | _ => none
@[simp] theorem k42_0 : k42 0 = some [0, 1] := rfl
@[simp] theorem k42_1 : k42 1 = some [1, 2] := rfl
@[simp] theorem k42_2 : k42 2 = some [] := rfl
@[simp] theorem k42_3 : k42 3 = some [2] := rfl
@[simp] theorem k42_4 : k42 4 = some [2, 5] := rfl
@[simp] theorem k42_5 : k42 5 = some [2, 5] := rfl
@[simp] theorem k42_6 : k42 6 = some [2, 5] := rfl
@[simp] theorem k42_7 : k42 7 = some [] := rfl
@[simp] theorem k42_8 : k42 8 = some [] := rfl
@[simp] theorem k42_20000 : k42 20000 = some [] := rfl
@[simp] theorem k42_20001 : k42 20001 = some [2, 5] := rfl
@[simp] theorem k42_30000 : k42 30000 = none := rfl
@[simp] theorem k42_30001 : k42 30001 = none := rfl
@[simp] theorem k42_30002 : k42 30002 = none := rfl
@[simp] theorem k42_30003 : k42 30003 = none := rfl
@[simp] theorem k42_30004 : k42 30004 = none := rfl
@[simp] theorem k42_30005 : k42 30005 = none := rfl
@[simp] theorem k42_30006 : k42 30006 = none := rfl
@[simp] theorem k42_30007 : k42 30007 = none := rfl
@[simp] theorem k42_30008 : k42 30008 = none := rfl
@[simp] theorem k42_9999 : k42 9999 = some [4] := rfl
def k43 : Nat → Option (List Nat)
  | 0 => some [0]
  | 1 => some [1]
  | 2 => some []
  | 3 => some [1]
  | 4 => some [1, 3]
  | 5 => some [1, 3, 4]
  | 6 => some [1, 3, 4, 5]
  | 7 => some [1, 3, 4, 5, 6]
  | 8 => some []
  | 9 => some [1, 3]
  | 10 => some [1, 3, 7]
  | 11 => some [1, 3, 7]
  | 12 => some [1, 3, 7]
  | 13 => some [1, 3, 7, 8]
  | 14 => some []
  | 15 => some [1]
  | 16 => some [1, 9]
  | 17 => some [1, 9]
  | 18 => some [1, 9]
  | 19 => some [1, 9, 10]
  | 20 => some []
  | 21 => some [1]
  | 22 => some [1, 11]
  | 23 => some [1, 11]
  | 24 => some [1, 11]
  | 25 => some [1, 11, 12]
  | 26 => some [1, 11, 12, 13]
  | 27 => some []
  | 28 => some [1, 11, 12]
  | 29 => some [1, 11, 12]
  | 30 => some [1, 11, 14]
  | 31 => some []
  | 32 => some []
  | 20000 => some [1]
  | 20001 => some [1, 3, 7]
  | 20002 => some [1]
  | 20003 => some [1, 9]
  | 20004 => some []
  | 20005 => some [1, 11]
  | 9999 => some [2]
  | _ => none
@[simp] theorem k43_0 : k43 0 = some [0] := rfl
@[simp] theorem k43_1 : k43 1 = some [1] := rfl
@[simp] theorem k43_2 : k43 2 = some [] := rfl
@[simp] theorem k43_3 : k43 3 = some [1] := rfl
@[simp] theorem k43_4 : k43 4 = some [1, 3] := rfl
@[simp] theorem k43_5 : k43 5 = some [1, 3, 4] := rfl
@[simp] theorem k43_6 : k43 6 = some [1, 3, 4, 5] := rfl
@[simp] theorem k43_7 : k43 7 = some [1, 3, 4, 5, 6] := rfl
@[simp] theorem k43_8 : k43 8 = some [] := rfl
@[simp] theorem k43_9 : k43 9 = some [1, 3] := rfl
@[simp] theorem k43_10 : k43 10 = some [1, 3, 7] := rfl
@[simp] theorem k43_11 : k43 11 = some [1, 3, 7] := rfl
@[simp] theorem k43_12 : k43 12 = some [1, 3, 7] := rfl
@[simp] theorem k43_13 : k43 13 = some [1, 3, 7, 8] := rfl
@[simp] theorem k43_14 : k43 14 = some [] := rfl
@[simp] theorem k43_15 : k43 15 = some [1] := rfl
@[simp] theorem k43_16 : k43 16 = some [1, 9] := rfl
@[simp] theorem k43_17 : k43 17 = some [1, 9] := rfl
@[simp] theorem k43_18 : k43 18 = some [1, 9] := rfl
@[simp] theorem k43_19 : k43 19 = some [1, 9, 10] := rfl
@[simp] theorem k43_20 : k43 20 = some [] := rfl
@[simp] theorem k43_21 : k43 21 = some [1] := rfl
@[simp] theorem k43_22 : k43 22 = some [1, 11] := rfl
@[simp] theorem k43_23 : k43 23 = some [1, 11] := rfl
@[simp] theorem k43_24 : k43 24 = some [1, 11] := rfl
@[simp] theorem k43_25 : k43 25 = some [1, 11, 12] := rfl
@[simp] theorem k43_26 : k43 26 = some [1, 11, 12, 13] := rfl
@[simp] theorem k43_27 : k43 27 = some [] := rfl
@[simp] theorem k43_28 : k43 28 = some [1, 11, 12] := rfl
@[simp] theorem k43_29 : k43 29 = some [1, 11, 12] := rfl
@[simp] theorem k43_30 : k43 30 = some [1, 11, 14] := rfl
@[simp] theorem k43_31 : k43 31 = some [] := rfl
@[simp] theorem k43_32 : k43 32 = some [] := rfl
@[simp] theorem k43_20000 : k43 20000 = some [1] := rfl
@[simp] theorem k43_20001 : k43 20001 = some [1, 3, 7] := rfl
@[simp] theorem k43_20002 : k43 20002 = some [1] := rfl
@[simp] theorem k43_20003 : k43 20003 = some [1, 9] := rfl
@[simp] theorem k43_20004 : k43 20004 = some [] := rfl
@[simp] theorem k43_20005 : k43 20005 = some [1, 11] := rfl
@[simp] theorem k43_30000 : k43 30000 = none := rfl
@[simp] theorem k43_30001 : k43 30001 = none := rfl
@[simp] theorem k43_30002 : k43 30002 = none := rfl
@[simp] theorem k43_30003 : k43 30003 = none := rfl
@[simp] theorem k43_30004 : k43 30004 = none := rfl
@[simp] theorem k43_30005 : k43 30005 = none := rfl
@[simp] theorem k43_30006 : k43 30006 = none := rfl
@[simp] theorem k43_30007 : k43 30007 = none := rfl
@[simp] theorem k43_30008 : k43 30008 = none := rfl
@[simp] theorem k43_30009 : k43 30009 = none := rfl
@[simp] theorem k43_30010 : k43 30010 = none := rfl
@[simp] theorem k43_30011 : k43 30011 = none := rfl
@[simp] theorem k43_30012 : k43 30012 = none := rfl
@[simp] theorem k43_30013 : k43 30013 = none := rfl
@[simp] theorem k43_30014 : k43 30014 = none := rfl
@[simp] theorem k43_30015 : k43 30015 = none := rfl
@[simp] theorem k43_30016 : k43 30016 = none := rfl
@[simp] theorem k43_30017 : k43 30017 = none := rfl
@[simp] theorem k43_30018 : k43 30018 = none := rfl
@[simp] theorem k43_30019 : k43 30019 = none := rfl
@[simp] theorem k43_30020 : k43 30020 = none := rfl
@[simp] theorem k43_30021 : k43 30021 = none := rfl
@[simp] theorem k43_30022 : k43 30022 = none := rfl
@[simp] theorem k43_30023 : k43 30023 = none := rfl
@[simp] theorem k43_30024 : k43 30024 = none := rfl
@[simp] theorem k43_30025 : k43 30025 = none := rfl
@[simp] theorem k43_30026 : k43 30026 = none := rfl
@[simp] theorem k43_30027 : k43 30027 = none := rfl
@[simp] theorem k43_30028 : k43 30028 = none := rfl
@[simp] theorem k43_30029 : k43 30029 = none := rfl
@[simp] theorem k43_30030 : k43 30030 = none := rfl
@[simp] theorem k43_30031 : k43 30031 = none := rfl
@[simp] theorem k43_30032 : k43 30032 = none := rfl
@[simp] theorem k43_9999 : k43 9999 = some [2] := rfl
def k44 : Nat → Option (List Nat)
  | 0 => some [0]
  | 1 => some [0]
  | 2 => some [0, 3]
  | 3 => some [0, 3, 9, 10, 11]
  | 4 => some [0, 3, 9, 10, 11]
  | 5 => some [0, 3, 5, 9, 10, 11]
  | 6 => some [0, 3, 9, 10, 11]
  | 7 => some [0, 3, 9, 10, 11]
  | 8 => some [0, 3, 9, 10, 11]
  | 9 => some [0, 3]
  | 10 => some [0, 6]
  | 11 => some [6, 25, 26, 27]
  | 12 => some [6, 25, 26, 27]
  | 13 => some [6, 8, 25, 26, 27]
  | 14 => some [6, 25, 26, 27]
  | 15 => some [6]
  | 20000 => some [0, 3]
  | 20001 => some [0, 3, 9, 10, 11]
  | 20002 => some [6]
  | 20003 => some [6, 25, 26, 27]
  | 9999 => some [2]
  | _ => none
@[simp] theorem k44_0 : k44 0 = some [0] := rfl
@[simp] theorem k44_1 : k44 1 = some [0] := rfl
@[simp] theorem k44_2 : k44 2 = some [0, 3] := rfl
@[simp] theorem k44_3 : k44 3 = some [0, 3, 9, 10, 11] := rfl
@[simp] theorem k44_4 : k44 4 = some [0, 3, 9, 10, 11] := rfl
@[simp] theorem k44_5 : k44 5 = some [0, 3, 5, 9, 10, 11] := rfl
@[simp] theorem k44_6 : k44 6 = some [0, 3, 9, 10, 11] := rfl
@[simp] theorem k44_7 : k44 7 = some [0, 3, 9, 10, 11] := rfl
@[simp] theorem k44_8 : k44 8 = some [0, 3, 9, 10, 11] := rfl
@[simp] theorem k44_9 : k44 9 = some [0, 3] := rfl
@[simp] theorem k44_10 : k44 10 = some [0, 6] := rfl
@[simp] theorem k44_11 : k44 11 = some [6, 25, 26, 27] := rfl
@[simp] theorem k44_12 : k44 12 = some [6, 25, 26, 27] := rfl
@[simp] theorem k44_13 : k44 13 = some [6, 8, 25, 26, 27] := rfl
@[simp] theorem k44_14 : k44 14 = some [6, 25, 26, 27] := rfl
@[simp] theorem k44_15 : k44 15 = some [6] := rfl
@[simp] theorem k44_20000 : k44 20000 = some [0, 3] := rfl
@[simp] theorem k44_20001 : k44 20001 = some [0, 3, 9, 10, 11] := rfl
@[simp] theorem k44_20002 : k44 20002 = some [6] := rfl
@[simp] theorem k44_20003 : k44 20003 = some [6, 25, 26, 27] := rfl
@[simp] theorem k44_30000 : k44 30000 = none := rfl
@[simp] theorem k44_30001 : k44 30001 = none := rfl
@[simp] theorem k44_30002 : k44 30002 = none := rfl
@[simp] theorem k44_30003 : k44 30003 = none := rfl
@[simp] theorem k44_30004 : k44 30004 = none := rfl
@[simp] theorem k44_30005 : k44 30005 = none := rfl
@[simp] theorem k44_30006 : k44 30006 = none := rfl
@[simp] theorem k44_30007 : k44 30007 = none := rfl
@[simp] theorem k44_30008 : k44 30008 = none := rfl
@[simp] theorem k44_30009 : k44 30009 = none := rfl
@[simp] theorem k44_30010 : k44 30010 = none := rfl
@[simp] theorem k44_30011 : k44 30011 = none := rfl
@[simp] theorem k44_30012 : k44 30012 = none := rfl
@[simp] theorem k44_30013 : k44 30013 = none := rfl
@[simp] theorem k44_30014 : k44 30014 = none := rfl
@[simp] theorem k44_30015 : k44 30015 = none := rfl
@[simp] theorem k44_9999 : k44 9999 = some [2] := rfl
def k45 : Nat → Option (List Nat)
  | 0 => some [0]
  | 1 => some [1]
  | 9999 => some [2]
  | _ => none
@[simp] theorem k45_0 : k45 0 = some [0] := rfl
@[simp] theorem k45_1 : k45 1 = some [1] := rfl
@[simp] theorem k45_30000 : k45 30000 = none := rfl
@[simp] theorem k45_30001 : k45 30001 = none := rfl
@[simp] theorem k45_9999 : k45 9999 = some [2] := rfl
def k46 : Nat → Option (List Nat)
  | 0 => some [0, 1]
  | 1 => some [0, 1]
  | 2 => some [0, 1, 5]
  | 3 => some [0, 1, 5, 6]
  | 4 => some [0, 1, 5, 6]
  | 5 => some [0, 1, 5, 6]
  | 6 => some [5]
  | 20000 => some [5]
  | 20001 => some [0, 1, 5, 6]
  | 9999 => some [4]
  | _ => none
@[simp] theorem k46_0 : k46 0 = some [0, 1] := rfl
@[simp] theorem k46_1 : k46 1 = some [0, 1] := rfl
@[simp] theorem k46_2 : k46 2 = some [0, 1, 5] := rfl
@[simp] theorem k46_3 : k46 3 = some [0, 1, 5, 6] := rfl
@[simp] theorem k46_4 : k46 4 = some [0, 1, 5, 6] := rfl
@[simp] theorem k46_5 : k46 5 = some [0, 1, 5, 6] := rfl
@[simp] theorem k46_6 : k46 6 = some [5] := rfl
@[simp] theorem k46_20000 : k46 20000 = some [5] := rfl
@[simp] theorem k46_20001 : k46 20001 = some [0, 1, 5, 6] := rfl
@[simp] theorem k46_30000 : k46 30000 = none := rfl
@[simp] theorem k46_30001 : k46 30001 = none := rfl
@[simp] theorem k46_30002 : k46 30002 = none := rfl
@[simp] theorem k46_30003 : k46 30003 = none := rfl
@[simp] theorem k46_30004 : k46 30004 = none := rfl
@[simp] theorem k46_30005 : k46 30005 = none := rfl
@[simp] theorem k46_30006 : k46 30006 = none := rfl
@[simp] theorem k46_9999 : k46 9999 = some [4] := rfl
def k47 : Nat → Option (List Nat)
  | 0 => some [0, 1]
  | 1 => some [1, 2]
  | 2 => some [1, 2, 5]
  | 3 => some [2, 5, 12, 13, 14]
  | 4 => some [2, 5, 12, 13, 14]
  | 5 => some [2, 5, 7, 12, 13, 14]
  | 6 => some [2, 5, 12, 13, 14]
  | 7 => some [5]
  | 20000 => some [5]
  | 20001 => some [2, 5, 12, 13, 14]
  | 9999 => some [4]
  | _ => none
@[simp] theorem k47_0 : k47 0 = some [0, 1] := rfl
@[simp] theorem k47_1 : k47 1 = some [1, 2] := rfl
@[simp] theorem k47_2 : k47 2 = some [1, 2, 5] := rfl
@[simp] theorem k47_3 : k47 3 = some [2, 5, 12, 13, 14] := rfl
@[simp] theorem k47_4 : k47 4 = some [2, 5, 12, 13, 14] := rfl
@[simp] theorem k47_5 : k47 5 = some [2, 5, 7, 12, 13, 14] := rfl
@[simp] theorem k47_6 : k47 6 = some [2, 5, 12, 13, 14] := rfl
@[simp] theorem k47_7 : k47 7 = some [5] := rfl
@[simp] theorem k47_20000 : k47 20000 = some [5] := rfl
@[simp] theorem k47_20001 : k47 20001 = some [2, 5, 12, 13, 14] := rfl
@[simp] theorem k47_30000 : k47 30000 = none := rfl
@[simp] theorem k47_30001 : k47 30001 = none := rfl
@[simp] theorem k47_30002 : k47 30002 = none := rfl
@[simp] theorem k47_30003 : k47 30003 = none := rfl
@[simp] theorem k47_30004 : k47 30004 = none := rfl
@[simp] theorem k47_30005 : k47 30005 = none := rfl
@[simp] theorem k47_30006 : k47 30006 = none := rfl
@[simp] theorem k47_30007 : k47 30007 = none := rfl
@[simp] theorem k47_9999 : k47 9999 = some [4] := rfl
def k48 : Nat → Option (List Nat)
  | 0 => some [0, 1]
  | 1 => some [0, 1]
  | 2 => some []
  | 3 => some [0, 1]
  | 4 => some [0, 1, 5]
  | 5 => some [0, 1, 5]
  | 6 => some [0, 1, 5]
  | 7 => some []
  | 8 => some []
  | 20000 => some []
  | 20001 => some [0, 1, 5]
  | 9999 => some [4]
  | _ => none
@[simp] theorem k48_0 : k48 0 = some [0, 1] := rfl
@[simp] theorem k48_1 : k48 1 = some [0, 1] := rfl
@[simp] theorem k48_2 : k48 2 = some [] := rfl
@[simp] theorem k48_3 : k48 3 = some [0, 1] := rfl
@[simp] theorem k48_4 : k48 4 = some [0, 1, 5] := rfl
@[simp] theorem k48_5 : k48 5 = some [0, 1, 5] := rfl
@[simp] theorem k48_6 : k48 6 = some [0, 1, 5] := rfl
@[simp] theorem k48_7 : k48 7 = some [] := rfl
@[simp] theorem k48_8 : k48 8 = some [] := rfl
@[simp] theorem k48_20000 : k48 20000 = some [] := rfl
@[simp] theorem k48_20001 : k48 20001 = some [0, 1, 5] := rfl
@[simp] theorem k48_30000 : k48 30000 = none := rfl
@[simp] theorem k48_30001 : k48 30001 = none := rfl
@[simp] theorem k48_30002 : k48 30002 = none := rfl
@[simp] theorem k48_30003 : k48 30003 = none := rfl
@[simp] theorem k48_30004 : k48 30004 = none := rfl
@[simp] theorem k48_30005 : k48 30005 = none := rfl
@[simp] theorem k48_30006 : k48 30006 = none := rfl
@[simp] theorem k48_30007 : k48 30007 = none := rfl
@[simp] theorem k48_30008 : k48 30008 = none := rfl
@[simp] theorem k48_9999 : k48 9999 = some [4] := rfl
def k49 : Nat → Option (List Nat)
  | 0 => some [0, 1]
  | 1 => some [0, 3]
  | 2 => some [0, 3, 5]
  | 3 => some [0, 3, 5]
  | 4 => some [0, 3, 5]
  | 5 => some [0]
  | 20000 => some [0]
  | 20001 => some [0, 3, 5]
  | 9999 => some [4]
  | _ => none
@[simp] theorem k49_0 : k49 0 = some [0, 1] := rfl
@[simp] theorem k49_1 : k49 1 = some [0, 3] := rfl
@[simp] theorem k49_2 : k49 2 = some [0, 3, 5] := rfl
@[simp] theorem k49_3 : k49 3 = some [0, 3, 5] := rfl
@[simp] theorem k49_4 : k49 4 = some [0, 3, 5] := rfl
@[simp] theorem k49_5 : k49 5 = some [0] := rfl
@[simp] theorem k49_20000 : k49 20000 = some [0] := rfl
@[simp] theorem k49_20001 : k49 20001 = some [0, 3, 5] := rfl
@[simp] theorem k49_30000 : k49 30000 = none := rfl
@[simp] theorem k49_30001 : k49 30001 = none := rfl
@[simp] theorem k49_30002 : k49 30002 = none := rfl
@[simp] theorem k49_30003 : k49 30003 = none := rfl
@[simp] theorem k49_30004 : k49 30004 = none := rfl
@[simp] theorem k49_30005 : k49 30005 = none := rfl
@[simp] theorem k49_9999 : k49 9999 = some [4] := rfl
def k50 : Nat → Option (List Nat)
  | 0 => some [0, 1]
  | 1 => some [0, 1]
  | 2 => some [0, 1, 5]
  | 3 => some [0, 1, 5]
  | 4 => some [0, 1, 5]
  | 5 => some []
  | 6 => some [0]
  | 20000 => some [0]
  | 20001 => some [0, 1, 5]
  | 9999 => some [4]
  | _ => none
@[simp] theorem k50_0 : k50 0 = some [0, 1] := rfl
@[simp] theorem k50_1 : k50 1 = some [0, 1] := rfl
@[simp] theorem k50_2 : k50 2 = some [0, 1, 5] := rfl
@[simp] theorem k50_3 : k50 3 = some [0, 1, 5] := rfl
@[simp] theorem k50_4 : k50 4 = some [0, 1, 5] := rfl
@[simp] theorem k50_5 : k50 5 = some [] := rfl
@[simp] theorem k50_6 : k50 6 = some [0] := rfl
@[simp] theorem k50_20000 : k50 20000 = some [0] := rfl
@[simp] theorem k50_20001 : k50 20001 = some [0, 1, 5] := rfl
@[simp] theorem k50_30000 : k50 30000 = none := rfl
@[simp] theorem k50_30001 : k50 30001 = none := rfl
@[simp] theorem k50_30002 : k50 30002 = none := rfl
@[simp] theorem k50_30003 : k50 30003 = none := rfl
@[simp] theorem k50_30004 : k50 30004 = none := rfl
@[simp] theorem k50_30005 : k50 30005 = none := rfl
@[simp] theorem k50_30006 : k50 30006 = none := rfl
@[simp] theorem k50_9999 : k50 9999 = some [4] := rfl
def k51 : Nat → Option (List Nat)
  | 0 => some [0]
  | 1 => some [0]
  | 2 => some [0, 3]
  | 3 => some [0, 3, 4]
  | 4 => some [0, 3, 4]
  | 5 => some [0, 3, 4, 5]
  | 6 => some []
  | 7 => some [0, 3, 4, 5]
  | 8 => some [0, 3, 4]
  | 9 => some [3]
  | 20000 => some [3]
  | 20001 => some [0, 3, 4]
  | 9999 => some [2]
  | _ => none
@[simp] theorem k51_0 : k51 0 = some [0] := rfl
@[simp] theorem k51_1 : k51 1 = some [0] := rfl
@[simp] theorem k51_2 : k51 2 = some [0, 3] := rfl
@[simp] theorem k51_3 : k51 3 = some [0, 3, 4] := rfl
@[simp] theorem k51_4 : k51 4 = some [0, 3, 4] := rfl
@[simp] theorem k51_5 : k51 5 = some [0, 3, 4, 5] := rfl
@[simp] theorem k51_6 : k51 6 = some [] := rfl
@[simp] theorem k51_7 : k51 7 = some [0, 3, 4, 5] := rfl
@[simp] theorem k51_8 : k51 8 = some [0, 3, 4] := rfl
@[simp] theorem k51_9 : k51 9 = some [3] := rfl
@[simp] theorem k51_20000 : k51 20000 = some [3] := rfl
@[simp] theorem k51_20001 : k51 20001 = some [0, 3, 4] := rfl
@[simp] theorem k51_30000 : k51 30000 = none := rfl
@[simp] theorem k51_30001 : k51 30001 = none := rfl
@[simp] theorem k51_30002 : k51 30002 = none := rfl
@[simp] theorem k51_30003 : k51 30003 = none := rfl
@[simp] theorem k51_30004 : k51 30004 = none := rfl
@[simp] theorem k51_30005 : k51 30005 = none := rfl
@[simp] theorem k51_30006 : k51 30006 = none := rfl
@[simp] theorem k51_30007 : k51 30007 = none := rfl
@[simp] theorem k51_30008 : k51 30008 = none := rfl
@[simp] theorem k51_30009 : k51 30009 = none := rfl
@[simp] theorem k51_9999 : k51 9999 = some [2] := rfl
def k52 : Nat → Option (List Nat)
  | 0 => some [0, 1]
  | 1 => some [1, 2]
  | 2 => some [2, 5]
  | 3 => some [2]
  | 4 => some [2, 5]
  | 5 => some [2]
  | 6 => some [2, 5]
  | 7 => some [2]
  | 8 => some [2, 5]
  | 9 => some [2]
  | 10 => some [2, 5]
  | 11 => some [2]
  | 12 => some []
  | 20000 => some []
  | 9999 => some [4]
  | _ => none
@[simp] theorem k52_0 : k52 0 = some [0, 1] := rfl
@[simp] theorem k52_1 : k52 1 = some [1, 2] := rfl
@[simp] theorem k52_2 : k52 2 = some [2, 5] := rfl
@[simp] theorem k52_3 : k52 3 = some [2] := rfl
@[simp] theorem k52_4 : k52 4 = some [2, 5] := rfl
@[simp] theorem k52_5 : k52 5 = some [2] := rfl
@[simp] theorem k52_6 : k52 6 = some [2, 5] := rfl
@[simp] theorem k52_7 : k52 7 = some [2] := rfl
@[simp] theorem k52_8 : k52 8 = some [2, 5] := rfl
@[simp] theorem k52_9 : k52 9 = some [2] := rfl
@[simp] theorem k52_10 : k52 10 = some [2, 5] := rfl
@[simp] theorem k52_11 : k52 11 = some [2] := rfl
@[simp] theorem k52_12 : k52 12 = some [] := rfl
@[simp] theorem k52_20000 : k52 20000 = some [] := rfl
@[simp] theorem k52_30000 : k52 30000 = none := rfl
@[simp] theorem k52_30001 : k52 30001 = none := rfl
@[simp] theorem k52_30002 : k52 30002 = none := rfl
@[simp] theorem k52_30003 : k52 30003 = none := rfl
@[simp] theorem k52_30004 : k52 30004 = none := rfl
@[simp] theorem k52_30005 : k52 30005 = none := rfl
@[simp] theorem k52_30006 : k52 30006 = none := rfl
@[simp] theorem k52_30007 : k52 30007 = none := rfl
@[simp] theorem k52_30008 : k52 30008 = none := rfl
@[simp] theorem k52_30009 : k52 30009 = none := rfl
@[simp] theorem k52_30010 : k52 30010 = none := rfl
@[simp] theorem k52_30011 : k52 30011 = none := rfl
@[simp] theorem k52_30012 : k52 30012 = none := rfl
@[simp] theorem k52_9999 : k52 9999 = some [4] := rfl
def k53 : Nat → Option (List Nat)
  | 0 => some [0]
  | 1 => some [0]
  | 2 => some [0, 3]
  | 3 => some [0, 3, 4]
  | 4 => some [0, 3, 4]
  | 5 => some [0, 3, 4]
  | 6 => some [4]
  | 7 => some []
  | 20000 => some []
  | 20001 => some [0, 3, 4]
  | 9999 => some [2]
  | _ => none
@[simp] theorem k53_0 : k53 0 = some [0] := rfl
@[simp] theorem k53_1 : k53 1 = some [0] := rfl
@[simp] theorem k53_2 : k53 2 = some [0, 3] := rfl
@[simp] theorem k53_3 : k53 3 = some [0, 3, 4] := rfl
@[simp] theorem k53_4 : k53 4 = some [0, 3, 4] := rfl
@[simp] theorem k53_5 : k53 5 = some [0, 3, 4] := rfl
@[simp] theorem k53_6 : k53 6 = some [4] := rfl
@[simp] theorem k53_7 : k53 7 = some [] := rfl
@[simp] theorem k53_20000 : k53 20000 = some [] := rfl
@[simp] theorem k53_20001 : k53 20001 = some [0, 3, 4] := rfl
@[simp] theorem k53_30000 : k53 30000 = none := rfl
@[simp] theorem k53_30001 : k53 30001 = none := rfl
@[simp] theorem k53_30002 : k53 30002 = none := rfl
@[simp] theorem k53_30003 : k53 30003 = none := rfl
@[simp] theorem k53_30004 : k53 30004 = none := rfl
@[simp] theorem k53_30005 : k53 30005 = none := rfl
@[simp] theorem k53_30006 : k53 30006 = none := rfl
@[simp] theorem k53_30007 : k53 30007 = none := rfl
@[simp] theorem k53_9999 : k53 9999 = some [2] := rfl
def k54 : Nat → Option (List Nat)
  | 0 => some [0, 1]
  | 1 => some [2, 3]
  | 2 => some [2, 3, 5]
  | 3 => some [2, 3, 5, 6]
  | 9999 => some [4]
  | _ => none
@[simp] theorem k54_0 : k54 0 = some [0, 1] := rfl
@[simp] theorem k54_1 : k54 1 = some [2, 3] := rfl
@[simp] theorem k54_2 : k54 2 = some [2, 3, 5] := rfl
@[simp] theorem k54_3 : k54 3 = some [2, 3, 5, 6] := rfl
@[simp] theorem k54_30000 : k54 30000 = none := rfl
@[simp] theorem k54_30001 : k54 30001 = none := rfl
@[simp] theorem k54_30002 : k54 30002 = none := rfl
@[simp] theorem k54_30003 : k54 30003 = none := rfl
@[simp] theorem k54_9999 : k54 9999 = some [4] := rfl
def k55 : Nat → Option (List Nat)
  | 0 => some [0, 1]
  | 1 => some [0, 1]
  | 2 => some [0, 1]
  | 3 => some [0, 1]
  | 4 => some [0, 1]
  | 5 => some [0, 1]
  | 6 => some [0]
  | 9999 => some [4]
  | _ => none
@[simp] theorem k55_0 : k55 0 = some [0, 1] := rfl
@[simp] theorem k55_1 : k55 1 = some [0, 1] := rfl
@[simp] theorem k55_2 : k55 2 = some [0, 1] := rfl
@[simp] theorem k55_3 : k55 3 = some [0, 1] := rfl
@[simp] theorem k55_4 : k55 4 = some [0, 1] := rfl
@[simp] theorem k55_5 : k55 5 = some [0, 1] := rfl
@[simp] theorem k55_6 : k55 6 = some [0] := rfl
@[simp] theorem k55_30000 : k55 30000 = none := rfl
@[simp] theorem k55_30001 : k55 30001 = none := rfl
@[simp] theorem k55_30002 : k55 30002 = none := rfl
@[simp] theorem k55_30003 : k55 30003 = none := rfl
@[simp] theorem k55_30004 : k55 30004 = none := rfl
@[simp] theorem k55_30005 : k55 30005 = none := rfl
@[simp] theorem k55_30006 : k55 30006 = none := rfl
@[simp] theorem k55_9999 : k55 9999 = some [4] := rfl
def k56 : Nat → Option (List Nat)
  | 0 => some [0]
  | 1 => some [0]
  | 2 => some [0, 3]
  | 3 => some [0, 3, 9, 10, 11]
  | 4 => some [0, 3, 9, 10, 11]
  | 5 => some [0, 3, 5, 9, 10, 11]
  | 6 => some [0, 3, 9, 10, 11]
  | 7 => some [0, 3, 9, 10, 11]
  | 8 => some [0, 3, 9, 10, 11]
  | 9 => some [0, 3]
  | 10 => some [0, 6]
  | 11 => some [6, 25, 26, 27]
  | 12 => some [6, 25, 26, 27]
  | 13 => some [6, 8, 25, 26, 27]
  | 14 => some [6, 25, 26, 27]
  | 15 => some [6]
  | 20000 => some [0, 3]
  | 20001 => some [0, 3, 9, 10, 11]
  | 20002 => some [6]
  | 20003 => some [6, 25, 26, 27]
  | 9999 => some [2]
  | _ => none
@[simp] theorem k56_0 : k56 0 = some [0] := rfl
@[simp] theorem k56_1 : k56 1 = some [0] := rfl
@[simp] theorem k56_2 : k56 2 = some [0, 3] := rfl
@[simp] theorem k56_3 : k56 3 = some [0, 3, 9, 10, 11] := rfl
@[simp] theorem k56_4 : k56 4 = some [0, 3, 9, 10, 11] := rfl
@[simp] theorem k56_5 : k56 5 = some [0, 3, 5, 9, 10, 11] := rfl
@[simp] theorem k56_6 : k56 6 = some [0, 3, 9, 10, 11] := rfl
@[simp] theorem k56_7 : k56 7 = some [0, 3, 9, 10, 11] := rfl
@[simp] theorem k56_8 : k56 8 = some [0, 3, 9, 10, 11] := rfl
@[simp] theorem k56_9 : k56 9 = some [0, 3] := rfl
@[simp] theorem k56_10 : k56 10 = some [0, 6] := rfl
@[simp] theorem k56_11 : k56 11 = some [6, 25, 26, 27] := rfl
@[simp] theorem k56_12 : k56 12 = some [6, 25, 26, 27] := rfl
@[simp] theorem k56_13 : k56 13 = some [6, 8, 25, 26, 27] := rfl
@[simp] theorem k56_14 : k56 14 = some [6, 25, 26, 27] := rfl
@[simp] theorem k56_15 : k56 15 = some [6] := rfl
@[simp] theorem k56_20000 : k56 20000 = some [0, 3] := rfl
@[simp] theorem k56_20001 : k56 20001 = some [0, 3, 9, 10, 11] := rfl
@[simp] theorem k56_20002 : k56 20002 = some [6] := rfl
@[simp] theorem k56_20003 : k56 20003 = some [6, 25, 26, 27] := rfl
@[simp] theorem k56_30000 : k56 30000 = none := rfl
@[simp] theorem k56_30001 : k56 30001 = none := rfl
@[simp] theorem k56_30002 : k56 30002 = none := rfl
@[simp] theorem k56_30003 : k56 30003 = none := rfl
@[simp] theorem k56_30004 : k56 30004 = none := rfl
@[simp] theorem k56_30005 : k56 30005 = none := rfl
@[simp] theorem k56_30006 : k56 30006 = none := rfl
@[simp] theorem k56_30007 : k56 30007 = none := rfl
@[simp] theorem k56_30008 : k56 30008 = none := rfl
@[simp] theorem k56_30009 : k56 30009 = none := rfl
@[simp] theorem k56_30010 : k56 30010 = none := rfl
@[simp] theorem k56_30011 : k56 30011 = none := rfl
@[simp] theorem k56_30012 : k56 30012 = none := rfl
@[simp] theorem k56_30013 : k56 30013 = none := rfl
@[simp] theorem k56_30014 : k56 30014 = none := rfl
@[simp] theorem k56_30015 : k56 30015 = none := rfl
@[simp] theorem k56_9999 : k56 9999 = some [2] := rfl
def k57 : Nat → Option (List Nat)
  | 0 => some [0, 1]
  | 1 => some [0, 1]
  | 2 => some [0, 1, 5]
  | 3 => some [0, 1, 5, 6]
  | 4 => some [0, 1, 5, 6, 7]
  | 5 => some [0, 1, 6]
  | 6 => some [0, 1, 5, 6]
  | 7 => some [0, 1, 5, 6]
  | 8 => some [0, 1, 5, 6, 7]
  | 9 => some [0, 1, 6]
  | 10 => some [0, 1, 5, 6]
  | 11 => some [0, 1, 5, 6]
  | 12 => some [0, 1, 5, 6, 7]
  | 13 => some [0, 1, 6]
  | 14 => some [0, 1, 5, 6]
  | 15 => some [0, 1, 5, 6]
  | 16 => some [0, 1, 5, 6, 7]
  | 17 => some []
  | 18 => some [0, 1, 5, 6, 7]
  | 19 => some [0, 1, 5, 6, 7, 8]
  | 20 => some [0, 1, 5, 6, 7, 8]
  | 21 => some [0, 1, 5, 6, 7, 8]
  | 22 => some []
  | 23 => some [0, 1, 5, 6, 7, 8]
  | 24 => some [5, 6, 7]
  | 25 => some []
  | 26 => some [5]
  | 20000 => some [5, 6, 7]
  | 20001 => some [0, 1, 5, 6, 7, 8]
  | 9999 => some [4]
  | _ => none
@[simp] theorem k57_0 : k57 0 = some [0, 1] := rfl
@[simp] theorem k57_1 : k57 1 = some [0, 1] := rfl
@[simp] theorem k57_2 : k57 2 = some [0, 1, 5] := rfl
@[simp] theorem k57_3 : k57 3 = some [0, 1, 5, 6] := rfl
@[simp] theorem k57_4 : k57 4 = some [0, 1, 5, 6, 7] := rfl
@[simp] theorem k57_5 : k57 5 = some [0, 1, 6] := rfl
@[simp] theorem k57_6 : k57 6 = some [0, 1, 5, 6] := rfl
@[simp] theorem k57_7 : k57 7 = some [0, 1, 5, 6] := rfl
@[simp] theorem k57_8 : k57 8 = some [0, 1, 5, 6, 7] := rfl
@[simp] theorem k57_9 : k57 9 = some [0, 1, 6] := rfl
@[simp] theorem k57_10 : k57 10 = some [0, 1, 5, 6] := rfl
@[simp] theorem k57_11 : k57 11 = some [0, 1, 5, 6] := rfl
@[simp] theorem k57_12 : k57 12 = some [0, 1, 5, 6, 7] := rfl
@[simp] theorem k57_13 : k57 13 = some [0, 1, 6] := rfl
@[simp] theorem k57_14 : k57 14 = some [0, 1, 5, 6] := rfl
@[simp] theorem k57_15 : k57 15 = some [0, 1, 5, 6] := rfl
@[simp] theorem k57_16 : k57 16 = some [0, 1, 5, 6, 7] := rfl
@[simp] theorem k57_17 : k57 17 = some [] := rfl
@[simp] theorem k57_18 : k57 18 = some [0, 1, 5, 6, 7] := rfl
@[simp] theorem k57_19 : k57 19 = some [0, 1, 5, 6, 7, 8] := rfl
@[simp] theorem k57_20 : k57 20 = some [0, 1, 5, 6, 7, 8] := rfl
@[simp] theorem k57_21 : k57 21 = some [0, 1, 5, 6, 7, 8] := rfl
@[simp] theorem k57_22 : k57 22 = some [] := rfl
@[simp] theorem k57_23 : k57 23 = some [0, 1, 5, 6, 7, 8] := rfl
@[simp] theorem k57_24 : k57 24 = some [5, 6, 7] := rfl
@[simp] theorem k57_25 : k57 25 = some [] := rfl
@[simp] theorem k57_26 : k57 26 = some [5] := rfl
@[simp] theorem k57_20000 : k57 20000 = some [5, 6, 7] := rfl
@[simp] theorem k57_20001 : k57 20001 = some [0, 1, 5, 6, 7, 8] := rfl
@[simp] theorem k57_30000 : k57 30000 = none := rfl
@[simp] theorem k57_30001 : k57 30001 = none := rfl
@[simp] theorem k57_30002 : k57 30002 = none := rfl
@[simp] theorem k57_30003 : k57 30003 = none := rfl
@[simp] theorem k57_30004 : k57 30004 = none := rfl
@[simp] theorem k57_30005 : k57 30005 = none := rfl
@[simp] theorem k57_30006 : k57 30006 = none := rfl
@[simp] theorem k57_30007 : k57 30007 = none := rfl
@[simp] theorem k57_30008 : k57 30008 = none := rfl
@[simp] theorem k57_30009 : k57 30009 = none := rfl
@[simp] theorem k57_30010 : k57 30010 = none := rfl
@[simp] theorem k57_30011 : k57 30011 = none := rfl
@[simp] theorem k57_30012 : k57 30012 = none := rfl
@[simp] theorem k57_30013 : k57 30013 = none := rfl
@[simp] theorem k57_30014 : k57 30014 = none := rfl
@[simp] theorem k57_30015 : k57 30015 = none := rfl
@[simp] theorem k57_30016 : k57 30016 = none := rfl
@[simp] theorem k57_30017 : k57 30017 = none := rfl
@[simp] theorem k57_30018 : k57 30018 = none := rfl
@[simp] theorem k57_30019 : k57 30019 = none := rfl
@[simp] theorem k57_30020 : k57 30020 = none := rfl
@[simp] theorem k57_30021 : k57 30021 = none := rfl
@[simp] theorem k57_30022 : k57 30022 = none := rfl
@[simp] theorem k57_30023 : k57 30023 = none := rfl
@[simp] theorem k57_30024 : k57 30024 = none := rfl
@[simp] theorem k57_30025 : k57 30025 = none := rfl
@[simp] theorem k57_30026 : k57 30026 = none := rfl
@[simp] theorem k57_9999 : k57 9999 = some [4] := rfl
def k58 : Nat → Option (List Nat)
  | 0 => some [0, 1]
  | 1 => some [0, 1]
  | 2 => some [0, 1]
  | 3 => some [0, 1]
  | 4 => some [0, 1]
  | 5 => some [0, 1]
  | 6 => some [0]
  | 9999 => some [4]
  | _ => none
@[simp] theorem k58_0 : k58 0 = some [0, 1] := rfl
@[simp] theorem k58_1 : k58 1 = some [0, 1] := rfl
@[simp] theorem k58_2 : k58 2 = some [0, 1] := rfl
@[simp] theorem k58_3 : k58 3 = some [0, 1] := rfl
@[simp] theorem k58_4 : k58 4 = some [0, 1] := rfl
@[simp] theorem k58_5 : k58 5 = some [0, 1] := rfl
@[simp] theorem k58_6 : k58 6 = some [0] := rfl
@[simp] theorem k58_30000 : k58 30000 = none := rfl
@[simp] theorem k58_30001 : k58 30001 = none := rfl
@[simp] theorem k58_30002 : k58 30002 = none := rfl
@[simp] theorem k58_30003 : k58 30003 = none := rfl
@[simp] theorem k58_30004 : k58 30004 = none := rfl
@[simp] theorem k58_30005 : k58 30005 = none := rfl
@[simp] theorem k58_30006 : k58 30006 = none := rfl
@[simp] theorem k58_9999 : k58 9999 = some [4] := rfl
def kt : Nat → Option (Nat → Option (List Nat))
  | 2 => some k2
  | 3 => some k3
  | 4 => some k4
  | 5 => some k5
  | 6 => some k6
  | 7 => some k7
  | 8 => some k8
  | 9 => some k9
  | 10 => some k10
  | 11 => some k11
  | 12 => some k12
  | 13 => some k13
  | 14 => some k14
  | 15 => some k15
  | 16 => some k16
  | 17 => some k17
  | 18 => some k18
  | 19 => some k19
  | 20 => some k20
  | 21 => some k21
  | 22 => some k22
  | 23 => some k23
  | 24 => some k24
  | 25 => some k25
  | 26 => some k26
  | 27 => some k27
  | 28 => some k28
  | 29 => some k29
  | 30 => some k30
  | 31 => some k31
  | 32 => some k32
  | 33 => some k33
  | 34 => some k34
  | 35 => some k35
  | 36 => some k36
  | 37 => some k37
  | 38 => some k38
  | 39 => some k39
  | 40 => some k40
  | 41 => some k41
  | 42 => some k42
  | 43 => some k43
  | 44 => some k44
  | 45 => some k45
  | 46 => some k46
  | 47 => some k47
  | 48 => some k48
  | 49 => some k49
  | 50 => some k50
  | 51 => some k51
  | 52 => some k52
  | 53 => some k53
  | 54 => some k54
  | 55 => some k55
  | 56 => some k56
  | 57 => some k57
  | 58 => some k58
  | _ => none
noncomputable abbrev ev := evCall Try.prog tyTab kt
theorem fn2 : Try.prog.funcs[2]? = some Try.f2 := by kernel_rfl
theorem fn3 : Try.prog.funcs[3]? = some Try.f3 := by kernel_rfl
theorem fn4 : Try.prog.funcs[4]? = some Try.f4 := by kernel_rfl
theorem fn5 : Try.prog.funcs[5]? = some Try.f5 := by kernel_rfl
theorem fn6 : Try.prog.funcs[6]? = some Try.f6 := by kernel_rfl
theorem fn7 : Try.prog.funcs[7]? = some Try.f7 := by kernel_rfl
theorem fn8 : Try.prog.funcs[8]? = some Try.f8 := by kernel_rfl
theorem fn9 : Try.prog.funcs[9]? = some Try.f9 := by kernel_rfl
theorem fn10 : Try.prog.funcs[10]? = some Try.f10 := by kernel_rfl
theorem fn11 : Try.prog.funcs[11]? = some Try.f11 := by kernel_rfl
theorem fn12 : Try.prog.funcs[12]? = some Try.f12 := by kernel_rfl
theorem fn13 : Try.prog.funcs[13]? = some Try.f13 := by kernel_rfl
theorem fn14 : Try.prog.funcs[14]? = some Try.f14 := by kernel_rfl
theorem fn15 : Try.prog.funcs[15]? = some Try.f15 := by kernel_rfl
theorem fn16 : Try.prog.funcs[16]? = some Try.f16 := by kernel_rfl
theorem fn17 : Try.prog.funcs[17]? = some Try.f17 := by kernel_rfl
theorem fn18 : Try.prog.funcs[18]? = some Try.f18 := by kernel_rfl
theorem fn19 : Try.prog.funcs[19]? = some Try.f19 := by kernel_rfl
theorem fn20 : Try.prog.funcs[20]? = some Try.f20 := by kernel_rfl
theorem fn21 : Try.prog.funcs[21]? = some Try.f21 := by kernel_rfl
theorem fn22 : Try.prog.funcs[22]? = some Try.f22 := by kernel_rfl
theorem fn23 : Try.prog.funcs[23]? = some Try.f23 := by kernel_rfl
theorem fn24 : Try.prog.funcs[24]? = some Try.f24 := by kernel_rfl
theorem fn25 : Try.prog.funcs[25]? = some Try.f25 := by kernel_rfl
theorem fn26 : Try.prog.funcs[26]? = some Try.f26 := by kernel_rfl
theorem fn27 : Try.prog.funcs[27]? = some Try.f27 := by kernel_rfl
theorem fn28 : Try.prog.funcs[28]? = some Try.f28 := by kernel_rfl
theorem fn29 : Try.prog.funcs[29]? = some Try.f29 := by kernel_rfl
theorem fn30 : Try.prog.funcs[30]? = some Try.f30 := by kernel_rfl
theorem fn31 : Try.prog.funcs[31]? = some Try.f31 := by kernel_rfl
theorem fn32 : Try.prog.funcs[32]? = some Try.f32 := by kernel_rfl
theorem fn33 : Try.prog.funcs[33]? = some Try.f33 := by kernel_rfl
theorem fn34 : Try.prog.funcs[34]? = some Try.f34 := by kernel_rfl
theorem fn35 : Try.prog.funcs[35]? = some Try.f35 := by kernel_rfl
theorem fn36 : Try.prog.funcs[36]? = some Try.f36 := by kernel_rfl
theorem fn37 : Try.prog.funcs[37]? = some Try.f37 := by kernel_rfl
theorem fn38 : Try.prog.funcs[38]? = some Try.f38 := by kernel_rfl
theorem fn39 : Try.prog.funcs[39]? = some Try.f39 := by kernel_rfl
theorem fn40 : Try.prog.funcs[40]? = some Try.f40 := by kernel_rfl
theorem fn41 : Try.prog.funcs[41]? = some Try.f41 := by kernel_rfl
theorem fn42 : Try.prog.funcs[42]? = some Try.f42 := by kernel_rfl
theorem fn43 : Try.prog.funcs[43]? = some Try.f43 := by kernel_rfl
theorem fn44 : Try.prog.funcs[44]? = some Try.f44 := by kernel_rfl
theorem fn45 : Try.prog.funcs[45]? = some Try.f45 := by kernel_rfl
theorem fn46 : Try.prog.funcs[46]? = some Try.f46 := by kernel_rfl
theorem fn47 : Try.prog.funcs[47]? = some Try.f47 := by kernel_rfl
theorem fn48 : Try.prog.funcs[48]? = some Try.f48 := by kernel_rfl
theorem fn49 : Try.prog.funcs[49]? = some Try.f49 := by kernel_rfl
theorem fn50 : Try.prog.funcs[50]? = some Try.f50 := by kernel_rfl
theorem fn51 : Try.prog.funcs[51]? = some Try.f51 := by kernel_rfl
theorem fn52 : Try.prog.funcs[52]? = some Try.f52 := by kernel_rfl
theorem fn53 : Try.prog.funcs[53]? = some Try.f53 := by kernel_rfl
theorem fn54 : Try.prog.funcs[54]? = some Try.f54 := by kernel_rfl
theorem fn55 : Try.prog.funcs[55]? = some Try.f55 := by kernel_rfl
theorem fn56 : Try.prog.funcs[56]? = some Try.f56 := by kernel_rfl
theorem fn57 : Try.prog.funcs[57]? = some Try.f57 := by kernel_rfl
theorem fn58 : Try.prog.funcs[58]? = some Try.f58 := by kernel_rfl
def bodyOk (kp : Nat → Option (List Nat)) (f : Func) : Bool := f.body.all (okCode (goodK kp))
theorem ok2 : bodyOk k2 Try.f2 = true := by kernel_rfl
theorem ok3 : bodyOk k3 Try.f3 = true := by kernel_rfl
theorem ok4 : bodyOk k4 Try.f4 = true := by kernel_rfl
theorem ok5 : bodyOk k5 Try.f5 = true := by kernel_rfl
theorem ok6 : bodyOk k6 Try.f6 = true := by kernel_rfl
theorem ok7 : bodyOk k7 Try.f7 = true := by kernel_rfl
theorem ok8 : bodyOk k8 Try.f8 = true := by kernel_rfl
theorem ok9 : bodyOk k9 Try.f9 = true := by kernel_rfl
theorem ok10 : bodyOk k10 Try.f10 = true := by kernel_rfl
theorem ok11 : bodyOk k11 Try.f11 = true := by kernel_rfl
theorem ok12 : bodyOk k12 Try.f12 = true := by kernel_rfl
theorem ok13 : bodyOk k13 Try.f13 = true := by kernel_rfl
theorem ok14 : bodyOk k14 Try.f14 = true := by kernel_rfl
theorem ok15 : bodyOk k15 Try.f15 = true := by kernel_rfl
theorem ok16 : bodyOk k16 Try.f16 = true := by kernel_rfl
theorem ok17 : bodyOk k17 Try.f17 = true := by kernel_rfl
theorem ok18 : bodyOk k18 Try.f18 = true := by kernel_rfl
theorem ok19 : bodyOk k19 Try.f19 = true := by kernel_rfl
theorem ok20 : bodyOk k20 Try.f20 = true := by kernel_rfl
theorem ok21 : bodyOk k21 Try.f21 = true := by kernel_rfl
theorem ok22 : bodyOk k22 Try.f22 = true := by kernel_rfl
theorem ok23 : bodyOk k23 Try.f23 = true := by kernel_rfl
theorem ok24 : bodyOk k24 Try.f24 = true := by kernel_rfl
theorem ok25 : bodyOk k25 Try.f25 = true := by kernel_rfl
theorem ok26 : bodyOk k26 Try.f26 = true := by kernel_rfl
theorem ok27 : bodyOk k27 Try.f27 = true := by kernel_rfl
theorem ok28 : bodyOk k28 Try.f28 = true := by kernel_rfl
theorem ok29 : bodyOk k29 Try.f29 = true := by kernel_rfl
theorem ok30 : bodyOk k30 Try.f30 = true := by kernel_rfl
theorem ok31 : bodyOk k31 Try.f31 = true := by kernel_rfl
theorem ok32 : bodyOk k32 Try.f32 = true := by kernel_rfl
theorem ok33 : bodyOk k33 Try.f33 = true := by kernel_rfl
theorem ok34 : bodyOk k34 Try.f34 = true := by kernel_rfl
theorem ok35 : bodyOk k35 Try.f35 = true := by kernel_rfl
theorem ok36 : bodyOk k36 Try.f36 = true := by kernel_rfl
theorem ok37 : bodyOk k37 Try.f37 = true := by kernel_rfl
theorem ok38 : bodyOk k38 Try.f38 = true := by kernel_rfl
theorem ok39 : bodyOk k39 Try.f39 = true := by kernel_rfl
theorem ok40 : bodyOk k40 Try.f40 = true := by kernel_rfl
theorem ok41 : bodyOk k41 Try.f41 = true := by kernel_rfl
theorem ok42 : bodyOk k42 Try.f42 = true := by kernel_rfl
theorem ok43 : bodyOk k43 Try.f43 = true := by kernel_rfl
theorem ok44 : bodyOk k44 Try.f44 = true := by kernel_rfl
theorem ok45 : bodyOk k45 Try.f45 = true := by kernel_rfl
theorem ok46 : bodyOk k46 Try.f46 = true := by kernel_rfl
theorem ok47 : bodyOk k47 Try.f47 = true := by kernel_rfl
theorem ok48 : bodyOk k48 Try.f48 = true := by kernel_rfl
theorem ok49 : bodyOk k49 Try.f49 = true := by kernel_rfl
theorem ok50 : bodyOk k50 Try.f50 = true := by kernel_rfl
theorem ok51 : bodyOk k51 Try.f51 = true := by kernel_rfl
theorem ok52 : bodyOk k52 Try.f52 = true := by kernel_rfl
theorem ok53 : bodyOk k53 Try.f53 = true := by kernel_rfl
theorem ok54 : bodyOk k54 Try.f54 = true := by kernel_rfl
theorem ok55 : bodyOk k55 Try.f55 = true := by kernel_rfl
theorem ok56 : bodyOk k56 Try.f56 = true := by kernel_rfl
theorem ok57 : bodyOk k57 Try.f57 = true := by kernel_rfl
theorem ok58 : bodyOk k58 Try.f58 = true := by kernel_rfl
theorem kOk : okProgram goodK Try.prog kt := by
  intro f fn c kp hk hf hb
  have gen : ∀ (g : Func) (q : Nat → Option (List Nat)), bodyOk q g = true → g = fn → some q = some kp → okCode (goodK kp) c = true := fun g q h e e2 => by
    subst e
    cases e2
    simp only [bodyOk, hb, Option.all_some] at h
    exact h
  unfold kt at hk
  split at hk
  · exact gen _ _ ok2 (by rw [fn2] at hf; injection hf) hk
  · exact gen _ _ ok3 (by rw [fn3] at hf; injection hf) hk
  · exact gen _ _ ok4 (by rw [fn4] at hf; injection hf) hk
  · exact gen _ _ ok5 (by rw [fn5] at hf; injection hf) hk
  · exact gen _ _ ok6 (by rw [fn6] at hf; injection hf) hk
  · exact gen _ _ ok7 (by rw [fn7] at hf; injection hf) hk
  · exact gen _ _ ok8 (by rw [fn8] at hf; injection hf) hk
  · exact gen _ _ ok9 (by rw [fn9] at hf; injection hf) hk
  · exact gen _ _ ok10 (by rw [fn10] at hf; injection hf) hk
  · exact gen _ _ ok11 (by rw [fn11] at hf; injection hf) hk
  · exact gen _ _ ok12 (by rw [fn12] at hf; injection hf) hk
  · exact gen _ _ ok13 (by rw [fn13] at hf; injection hf) hk
  · exact gen _ _ ok14 (by rw [fn14] at hf; injection hf) hk
  · exact gen _ _ ok15 (by rw [fn15] at hf; injection hf) hk
  · exact gen _ _ ok16 (by rw [fn16] at hf; injection hf) hk
  · exact gen _ _ ok17 (by rw [fn17] at hf; injection hf) hk
  · exact gen _ _ ok18 (by rw [fn18] at hf; injection hf) hk
  · exact gen _ _ ok19 (by rw [fn19] at hf; injection hf) hk
  · exact gen _ _ ok20 (by rw [fn20] at hf; injection hf) hk
  · exact gen _ _ ok21 (by rw [fn21] at hf; injection hf) hk
  · exact gen _ _ ok22 (by rw [fn22] at hf; injection hf) hk
  · exact gen _ _ ok23 (by rw [fn23] at hf; injection hf) hk
  · exact gen _ _ ok24 (by rw [fn24] at hf; injection hf) hk
  · exact gen _ _ ok25 (by rw [fn25] at hf; injection hf) hk
  · exact gen _ _ ok26 (by rw [fn26] at hf; injection hf) hk
  · exact gen _ _ ok27 (by rw [fn27] at hf; injection hf) hk
  · exact gen _ _ ok28 (by rw [fn28] at hf; injection hf) hk
  · exact gen _ _ ok29 (by rw [fn29] at hf; injection hf) hk
  · exact gen _ _ ok30 (by rw [fn30] at hf; injection hf) hk
  · exact gen _ _ ok31 (by rw [fn31] at hf; injection hf) hk
  · exact gen _ _ ok32 (by rw [fn32] at hf; injection hf) hk
  · exact gen _ _ ok33 (by rw [fn33] at hf; injection hf) hk
  · exact gen _ _ ok34 (by rw [fn34] at hf; injection hf) hk
  · exact gen _ _ ok35 (by rw [fn35] at hf; injection hf) hk
  · exact gen _ _ ok36 (by rw [fn36] at hf; injection hf) hk
  · exact gen _ _ ok37 (by rw [fn37] at hf; injection hf) hk
  · exact gen _ _ ok38 (by rw [fn38] at hf; injection hf) hk
  · exact gen _ _ ok39 (by rw [fn39] at hf; injection hf) hk
  · exact gen _ _ ok40 (by rw [fn40] at hf; injection hf) hk
  · exact gen _ _ ok41 (by rw [fn41] at hf; injection hf) hk
  · exact gen _ _ ok42 (by rw [fn42] at hf; injection hf) hk
  · exact gen _ _ ok43 (by rw [fn43] at hf; injection hf) hk
  · exact gen _ _ ok44 (by rw [fn44] at hf; injection hf) hk
  · exact gen _ _ ok45 (by rw [fn45] at hf; injection hf) hk
  · exact gen _ _ ok46 (by rw [fn46] at hf; injection hf) hk
  · exact gen _ _ ok47 (by rw [fn47] at hf; injection hf) hk
  · exact gen _ _ ok48 (by rw [fn48] at hf; injection hf) hk
  · exact gen _ _ ok49 (by rw [fn49] at hf; injection hf) hk
  · exact gen _ _ ok50 (by rw [fn50] at hf; injection hf) hk
  · exact gen _ _ ok51 (by rw [fn51] at hf; injection hf) hk
  · exact gen _ _ ok52 (by rw [fn52] at hf; injection hf) hk
  · exact gen _ _ ok53 (by rw [fn53] at hf; injection hf) hk
  · exact gen _ _ ok54 (by rw [fn54] at hf; injection hf) hk
  · exact gen _ _ ok55 (by rw [fn55] at hf; injection hf) hk
  · exact gen _ _ ok56 (by rw [fn56] at hf; injection hf) hk
  · exact gen _ _ ok57 (by rw [fn57] at hf; injection hf) hk
  · exact gen _ _ ok58 (by rw [fn58] at hf; injection hf) hk
  · cases hk
end Go.Proofs.Ytdoapnmbopifjaa

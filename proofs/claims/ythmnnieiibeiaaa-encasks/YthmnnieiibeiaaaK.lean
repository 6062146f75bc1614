/- What each function still asks for at its loops' heads, and at its ends; its regions may run in any order. No condition. -/
import Derived.Test.YthmnnieiibeiaaaTy
import Derived.Test.YthmnnieiibeiaaaGl
namespace Go.Proofs.Ythmnnieiibeiaaa
open Go.Vabs
def k3 : Nat → Option (List Nat)
 | 0 => some [0, 1, 2]
 | 1 => some [1, 2, 3]
 | 2 => some [1, 2, 3, 7]
 | 3 => some [7]
 | 4 => some [1, 2, 3, 7]
 | 5 => some [1, 2, 3, 7, 8]
 | 6 => some [1, 2, 3, 7, 8, 9]
 | 7 => some [1, 2, 3, 7, 8, 9, 10]
 | 8 => some [1, 2, 3, 7, 8, 9, 10, 11]
 | 9999 => some [6]
 | _ => none
attribute [simp] k3
@[simp] theorem k3_30000 : k3 30000 = none := rfl
@[simp] theorem k3_30001 : k3 30001 = none := rfl
@[simp] theorem k3_30002 : k3 30002 = none := rfl
@[simp] theorem k3_30003 : k3 30003 = none := rfl
@[simp] theorem k3_30004 : k3 30004 = none := rfl
@[simp] theorem k3_30005 : k3 30005 = none := rfl
@[simp] theorem k3_30006 : k3 30006 = none := rfl
@[simp] theorem k3_30007 : k3 30007 = none := rfl
@[simp] theorem k3_30008 : k3 30008 = none := rfl
def k4 : Nat → Option (List Nat)
 | 0 => some []
 | 1 => some []
 | 2 => some [1]
 | 3 => some [1, 2]
 | 4 => some [1, 2, 3]
 | 5 => some [1, 2, 3, 4]
 | 9999 => some [0]
 | _ => none
attribute [simp] k4
@[simp] theorem k4_30000 : k4 30000 = none := rfl
@[simp] theorem k4_30001 : k4 30001 = none := rfl
@[simp] theorem k4_30002 : k4 30002 = none := rfl
@[simp] theorem k4_30003 : k4 30003 = none := rfl
@[simp] theorem k4_30004 : k4 30004 = none := rfl
@[simp] theorem k4_30005 : k4 30005 = none := rfl
def k5 : Nat → Option (List Nat)
 | 0 => some [0, 1]
 | 1 => some [1, 2]
 | 9999 => some [4]
 | _ => none
attribute [simp] k5
@[simp] theorem k5_30000 : k5 30000 = none := rfl
@[simp] theorem k5_30001 : k5 30001 = none := rfl
def k6 : Nat → Option (List Nat)
 | 0 => some [0, 1]
 | 1 => some [1, 2, 4]
 | 9999 => some [4]
 | _ => none
attribute [simp] k6
@[simp] theorem k6_30000 : k6 30000 = none := rfl
@[simp] theorem k6_30001 : k6 30001 = none := rfl
def k7 : Nat → Option (List Nat)
 | 0 => some [0, 1]
 | 1 => some [1, 2, 4]
 | 2 => some [1, 2, 4, 5]
 | 9999 => some [4]
 | _ => none
attribute [simp] k7
@[simp] theorem k7_30000 : k7 30000 = none := rfl
@[simp] theorem k7_30001 : k7 30001 = none := rfl
@[simp] theorem k7_30002 : k7 30002 = none := rfl
def k8 : Nat → Option (List Nat)
 | 0 => some [0, 1, 2]
 | 1 => some [1, 2, 3, 6]
 | 9999 => some [6]
 | _ => none
attribute [simp] k8
@[simp] theorem k8_30000 : k8 30000 = none := rfl
@[simp] theorem k8_30001 : k8 30001 = none := rfl
def k9 : Nat → Option (List Nat)
 | 0 => some [0]
 | 1 => some [1]
 | 2 => some []
 | 3 => some [1]
 | 4 => some [1, 3]
 | 5 => some [1, 3]
 | 6 => some [1, 3]
 | 7 => some []
 | 8 => some [1, 3]
 | 9 => some [1, 3, 4]
 | 10 => some [1, 3, 4]
 | 11 => some [1, 3, 4]
 | 12 => some [1, 3, 4, 5]
 | 13 => some []
 | 14 => some []
 | 20000 => some []
 | 20001 => some [1, 3]
 | 20002 => some [1, 3]
 | 20003 => some [1, 3, 4]
 | 9999 => some [2]
 | _ => none
attribute [simp] k9
@[simp] theorem k9_30000 : k9 30000 = none := rfl
@[simp] theorem k9_30001 : k9 30001 = none := rfl
@[simp] theorem k9_30002 : k9 30002 = none := rfl
@[simp] theorem k9_30003 : k9 30003 = none := rfl
@[simp] theorem k9_30004 : k9 30004 = none := rfl
@[simp] theorem k9_30005 : k9 30005 = none := rfl
@[simp] theorem k9_30006 : k9 30006 = none := rfl
@[simp] theorem k9_30007 : k9 30007 = none := rfl
@[simp] theorem k9_30008 : k9 30008 = none := rfl
@[simp] theorem k9_30009 : k9 30009 = none := rfl
@[simp] theorem k9_30010 : k9 30010 = none := rfl
@[simp] theorem k9_30011 : k9 30011 = none := rfl
@[simp] theorem k9_30012 : k9 30012 = none := rfl
@[simp] theorem k9_30013 : k9 30013 = none := rfl
@[simp] theorem k9_30014 : k9 30014 = none := rfl
def k10 : Nat → Option (List Nat)
 | 0 => some [0, 1]
 | 1 => some [2, 3]
 | 2 => some []
 | 3 => some [2, 3]
 | 4 => some [2, 3, 5]
 | 5 => some [2, 3, 5]
 | 6 => some [2, 3, 5]
 | 7 => some [2, 3, 5, 6]
 | 8 => some []
 | 9 => some []
 | 20000 => some []
 | 20001 => some [2, 3, 5]
 | 9999 => some [4]
 | _ => none
attribute [simp] k10
@[simp] theorem k10_30000 : k10 30000 = none := rfl
@[simp] theorem k10_30001 : k10 30001 = none := rfl
@[simp] theorem k10_30002 : k10 30002 = none := rfl
@[simp] theorem k10_30003 : k10 30003 = none := rfl
@[simp] theorem k10_30004 : k10 30004 = none := rfl
@[simp] theorem k10_30005 : k10 30005 = none := rfl
@[simp] theorem k10_30006 : k10 30006 = none := rfl
@[simp] theorem k10_30007 : k10 30007 = none := rfl
@[simp] theorem k10_30008 : k10 30008 = none := rfl
@[simp] theorem k10_30009 : k10 30009 = none := rfl
def k11 : Nat → Option (List Nat)
 | 0 => some [0, 1]
 | 1 => some [1, 2, 4]
 | 2 => some [1, 2, 4, 5]
 | 9999 => some [4]
 | _ => none
attribute [simp] k11
@[simp] theorem k11_30000 : k11 30000 = none := rfl
@[simp] theorem k11_30001 : k11 30001 = none := rfl
@[simp] theorem k11_30002 : k11 30002 = none := rfl
def k12 : Nat → Option (List Nat)
 | 0 => some [0, 1]
 | 1 => some [1, 2, 4]
 | 2 => some [1, 2, 4, 5]
 | 3 => some [1, 2, 4, 6]
 | 30002 => some [2]
 | 9999 => some [4]
 | _ => none
attribute [simp] k12
@[simp] theorem k12_30000 : k12 30000 = none := rfl
@[simp] theorem k12_30001 : k12 30001 = none := rfl
@[simp] theorem k12_30003 : k12 30003 = none := rfl
def k13 : Nat → Option (List Nat)
 | 0 => some [0, 1, 2]
 | 1 => some [1, 2, 3, 6]
 | 2 => some [1, 2, 3, 6, 7]
 | 9999 => some [6]
 | _ => none
attribute [simp] k13
@[simp] theorem k13_30000 : k13 30000 = none := rfl
@[simp] theorem k13_30001 : k13 30001 = none := rfl
@[simp] theorem k13_30002 : k13 30002 = none := rfl
def k14 : Nat → Option (List Nat)
 | 0 => some [0, 1]
 | 1 => some [0, 1]
 | 2 => some []
 | 3 => some [0, 1]
 | 4 => some [0, 1, 5]
 | 5 => some [0, 1, 5]
 | 6 => some [0, 1, 5]
 | 7 => some []
 | 8 => some [0, 1, 5]
 | 9 => some [0, 1, 5, 6]
 | 10 => some [0, 1, 5, 6]
 | 11 => some [0, 1, 5, 6]
 | 12 => some []
 | 13 => some []
 | 20000 => some []
 | 20001 => some [0, 1, 5]
 | 20002 => some [0, 1, 5]
 | 20003 => some [0, 1, 5, 6]
 | 9999 => some [4]
 | _ => none
attribute [simp] k14
@[simp] theorem k14_30000 : k14 30000 = none := rfl
@[simp] theorem k14_30001 : k14 30001 = none := rfl
@[simp] theorem k14_30002 : k14 30002 = none := rfl
@[simp] theorem k14_30003 : k14 30003 = none := rfl
@[simp] theorem k14_30004 : k14 30004 = none := rfl
@[simp] theorem k14_30005 : k14 30005 = none := rfl
@[simp] theorem k14_30006 : k14 30006 = none := rfl
@[simp] theorem k14_30007 : k14 30007 = none := rfl
@[simp] theorem k14_30008 : k14 30008 = none := rfl
@[simp] theorem k14_30009 : k14 30009 = none := rfl
@[simp] theorem k14_30010 : k14 30010 = none := rfl
@[simp] theorem k14_30011 : k14 30011 = none := rfl
@[simp] theorem k14_30012 : k14 30012 = none := rfl
@[simp] theorem k14_30013 : k14 30013 = none := rfl
def k15 : Nat → Option (List Nat)
 | 0 => some [0, 1]
 | 1 => some [1, 2]
 | 2 => some [1, 2, 5]
 | 3 => some [1, 2, 5, 17, 18]
 | 4 => some [1, 2, 5, 17, 18]
 | 5 => some [1, 2, 5, 6, 17, 18]
 | 6 => some [1, 2, 5, 7, 8, 9, 17, 18]
 | 7 => some [1, 2, 5, 17, 18]
 | 8 => some [5]
 | 20000 => some [5]
 | 20001 => some [1, 2, 5, 17, 18]
 | 9999 => some [4]
 | _ => none
attribute [simp] k15
@[simp] theorem k15_30000 : k15 30000 = none := rfl
@[simp] theorem k15_30001 : k15 30001 = none := rfl
@[simp] theorem k15_30002 : k15 30002 = none := rfl
@[simp] theorem k15_30003 : k15 30003 = none := rfl
@[simp] theorem k15_30004 : k15 30004 = none := rfl
@[simp] theorem k15_30005 : k15 30005 = none := rfl
@[simp] theorem k15_30006 : k15 30006 = none := rfl
@[simp] theorem k15_30007 : k15 30007 = none := rfl
@[simp] theorem k15_30008 : k15 30008 = none := rfl
def k16 : Nat → Option (List Nat)
 | 0 => some [0, 1]
 | 1 => some [1, 2]
 | 9999 => some [4]
 | _ => none
attribute [simp] k16
@[simp] theorem k16_30000 : k16 30000 = none := rfl
@[simp] theorem k16_30001 : k16 30001 = none := rfl
def k17 : Nat → Option (List Nat)
 | 0 => some [0, 1, 2]
 | 1 => some [1, 2, 3]
 | 2 => some [2, 7]
 | 3 => some [7]
 | 4 => some [7]
 | 9999 => some [6]
 | _ => none
attribute [simp] k17
@[simp] theorem k17_30000 : k17 30000 = none := rfl
@[simp] theorem k17_30001 : k17 30001 = none := rfl
@[simp] theorem k17_30002 : k17 30002 = none := rfl
@[simp] theorem k17_30003 : k17 30003 = none := rfl
@[simp] theorem k17_30004 : k17 30004 = none := rfl
def k18 : Nat → Option (List Nat)
 | 0 => some [0]
 | 1 => some [1]
 | 2 => some [1, 3]
 | 3 => some [3, 4]
 | 9999 => some [2]
 | _ => none
attribute [simp] k18
@[simp] theorem k18_30000 : k18 30000 = none := rfl
@[simp] theorem k18_30001 : k18 30001 = none := rfl
@[simp] theorem k18_30002 : k18 30002 = none := rfl
@[simp] theorem k18_30003 : k18 30003 = none := rfl
def k19 : Nat → Option (List Nat)
 | 0 => some [0]
 | 1 => some [1]
 | 9999 => some [2]
 | _ => none
attribute [simp] k19
@[simp] theorem k19_30000 : k19 30000 = none := rfl
@[simp] theorem k19_30001 : k19 30001 = none := rfl
def k20 : Nat → Option (List Nat)
 | 0 => some [0]
 | 1 => some [0]
 | 2 => some [0, 3]
 | 3 => some [0, 3, 9, 10, 11]
 | 4 => some [0, 3, 9, 10, 11]
 | 5 => some [0, 3, 5, 9, 10, 11]
 | 6 => some [0, 3, 9, 10, 11]
 | 7 => some [0, 3, 9, 10, 11]
 | 8 => some [0, 3, 9, 10, 11]
 | 9 => some [0, 3]
 | 10 => some [0, 6]
 | 11 => some [6, 25, 26, 27]
 | 12 => some [6, 25, 26, 27]
 | 13 => some [6, 8, 25, 26, 27]
 | 14 => some [6, 25, 26, 27]
 | 15 => some [6]
 | 20000 => some [0, 3]
 | 20001 => some [0, 3, 9, 10, 11]
 | 20002 => some [6]
 | 20003 => some [6, 25, 26, 27]
 | 9999 => some [2]
 | _ => none
attribute [simp] k20
@[simp] theorem k20_30000 : k20 30000 = none := rfl
@[simp] theorem k20_30001 : k20 30001 = none := rfl
@[simp] theorem k20_30002 : k20 30002 = none := rfl
@[simp] theorem k20_30003 : k20 30003 = none := rfl
@[simp] theorem k20_30004 : k20 30004 = none := rfl
@[simp] theorem k20_30005 : k20 30005 = none := rfl
@[simp] theorem k20_30006 : k20 30006 = none := rfl
@[simp] theorem k20_30007 : k20 30007 = none := rfl
@[simp] theorem k20_30008 : k20 30008 = none := rfl
@[simp] theorem k20_30009 : k20 30009 = none := rfl
@[simp] theorem k20_30010 : k20 30010 = none := rfl
@[simp] theorem k20_30011 : k20 30011 = none := rfl
@[simp] theorem k20_30012 : k20 30012 = none := rfl
@[simp] theorem k20_30013 : k20 30013 = none := rfl
@[simp] theorem k20_30014 : k20 30014 = none := rfl
@[simp] theorem k20_30015 : k20 30015 = none := rfl
def k21 : Nat → Option (List Nat)
 | 0 => some [0]
 | 1 => some [1]
 | 2 => some [1, 3]
 | 3 => some [1, 3, 7, 8, 9]
 | 4 => some [1, 3, 7, 8, 9]
 | 5 => some [1, 3, 4, 5, 7, 8, 9]
 | 6 => some [1, 3, 4, 5, 7, 8, 9]
 | 7 => some [1, 3, 7, 8, 9]
 | 8 => some [3]
 | 20000 => some [3]
 | 20001 => some [1, 3, 7, 8, 9]
 | 9999 => some [2]
 | _ => none
attribute [simp] k21
@[simp] theorem k21_30000 : k21 30000 = none := rfl
@[simp] theorem k21_30001 : k21 30001 = none := rfl
@[simp] theorem k21_30002 : k21 30002 = none := rfl
@[simp] theorem k21_30003 : k21 30003 = none := rfl
@[simp] theorem k21_30004 : k21 30004 = none := rfl
@[simp] theorem k21_30005 : k21 30005 = none := rfl
@[simp] theorem k21_30006 : k21 30006 = none := rfl
@[simp] theorem k21_30007 : k21 30007 = none := rfl
@[simp] theorem k21_30008 : k21 30008 = none := rfl
def k22 : Nat → Option (List Nat)
 | 0 => some [0, 1, 2]
 | 1 => some [1, 2, 3]
 | 2 => some [1, 2, 3, 7]
 | 3 => some [1, 3, 7, 13, 14, 15]
 | 4 => some [1, 3, 7, 13, 14, 15]
 | 5 => some [1, 3, 7, 8, 9, 13, 14, 15]
 | 6 => some [1, 3, 7, 13, 14, 15]
 | 7 => some [7]
 | 20000 => some [7]
 | 20001 => some [1, 3, 7, 13, 14, 15]
 | 9999 => some [6]
 | _ => none
attribute [simp] k22
@[simp] theorem k22_30000 : k22 30000 = none := rfl
@[simp] theorem k22_30001 : k22 30001 = none := rfl
@[simp] theorem k22_30002 : k22 30002 = none := rfl
@[simp] theorem k22_30003 : k22 30003 = none := rfl
@[simp] theorem k22_30004 : k22 30004 = none := rfl
@[simp] theorem k22_30005 : k22 30005 = none := rfl
@[simp] theorem k22_30006 : k22 30006 = none := rfl
@[simp] theorem k22_30007 : k22 30007 = none := rfl
def k23 : Nat → Option (List Nat)
 | 0 => some [0]
 | 1 => some [1]
 | 2 => some [1, 3]
 | 3 => some [1, 3, 9, 10, 11]
 | 4 => some [1, 3, 9, 10, 11]
 | 5 => some [1, 3, 4, 5, 9, 10, 11]
 | 6 => some [1, 3, 6, 7, 9, 10, 11]
 | 7 => some [1, 3, 9, 10, 11]
 | 8 => some [3]
 | 20000 => some [3]
 | 20001 => some [1, 3, 9, 10, 11]
 | 9999 => some [2]
 | _ => none
attribute [simp] k23
@[simp] theorem k23_30000 : k23 30000 = none := rfl
@[simp] theorem k23_30001 : k23 30001 = none := rfl
@[simp] theorem k23_30002 : k23 30002 = none := rfl
@[simp] theorem k23_30003 : k23 30003 = none := rfl
@[simp] theorem k23_30004 : k23 30004 = none := rfl
@[simp] theorem k23_30005 : k23 30005 = none := rfl
@[simp] theorem k23_30006 : k23 30006 = none := rfl
@[simp] theorem k23_30007 : k23 30007 = none := rfl
@[simp] theorem k23_30008 : k23 30008 = none := rfl
def k24 : Nat → Option (List Nat)
 | 0 => some [0, 1]
 | 1 => some [1, 2]
 | 2 => some [1, 2, 5]
 | 3 => some [2, 5, 12, 13, 14]
 | 4 => some [2, 5, 12, 13, 14]
 | 5 => some [2, 5, 7, 12, 13, 14]
 | 6 => some [2, 5, 12, 13, 14]
 | 7 => some [5]
 | 20000 => some [5]
 | 20001 => some [2, 5, 12, 13, 14]
 | 9999 => some [4]
 | _ => none
attribute [simp] k24
@[simp] theorem k24_30000 : k24 30000 = none := rfl
@[simp] theorem k24_30001 : k24 30001 = none := rfl
@[simp] theorem k24_30002 : k24 30002 = none := rfl
@[simp] theorem k24_30003 : k24 30003 = none := rfl
@[simp] theorem k24_30004 : k24 30004 = none := rfl
@[simp] theorem k24_30005 : k24 30005 = none := rfl
@[simp] theorem k24_30006 : k24 30006 = none := rfl
@[simp] theorem k24_30007 : k24 30007 = none := rfl
def k25 : Nat → Option (List Nat)
 | 0 => some [0, 1]
 | 1 => some [0, 1]
 | 2 => some []
 | 3 => some [0, 1]
 | 4 => some [0, 1, 5]
 | 5 => some [0, 1, 5]
 | 6 => some [0, 1, 5]
 | 7 => some []
 | 8 => some []
 | 20000 => some []
 | 20001 => some [0, 1, 5]
 | 9999 => some [4]
 | _ => none
attribute [simp] k25
@[simp] theorem k25_30000 : k25 30000 = none := rfl
@[simp] theorem k25_30001 : k25 30001 = none := rfl
@[simp] theorem k25_30002 : k25 30002 = none := rfl
@[simp] theorem k25_30003 : k25 30003 = none := rfl
@[simp] theorem k25_30004 : k25 30004 = none := rfl
@[simp] theorem k25_30005 : k25 30005 = none := rfl
@[simp] theorem k25_30006 : k25 30006 = none := rfl
@[simp] theorem k25_30007 : k25 30007 = none := rfl
@[simp] theorem k25_30008 : k25 30008 = none := rfl
def k26 : Nat → Option (List Nat)
 | 0 => some [0, 1]
 | 1 => some [1, 2]
 | 2 => some [1, 2, 5]
 | 3 => some [1, 2, 5, 6]
 | 4 => some [1, 2, 5, 6]
 | 5 => some [1, 2, 5, 6]
 | 6 => some [1, 2, 5, 6, 7]
 | 7 => some [1, 2, 5, 6, 7, 8]
 | 8 => some [1, 2, 5, 6, 7, 8, 9]
 | 9 => some [5]
 | 20000 => some [5]
 | 20001 => some [1, 2, 5, 6]
 | 9999 => some [4]
 | _ => none
attribute [simp] k26
@[simp] theorem k26_30000 : k26 30000 = none := rfl
@[simp] theorem k26_30001 : k26 30001 = none := rfl
@[simp] theorem k26_30002 : k26 30002 = none := rfl
@[simp] theorem k26_30003 : k26 30003 = none := rfl
@[simp] theorem k26_30004 : k26 30004 = none := rfl
@[simp] theorem k26_30005 : k26 30005 = none := rfl
@[simp] theorem k26_30006 : k26 30006 = none := rfl
@[simp] theorem k26_30007 : k26 30007 = none := rfl
@[simp] theorem k26_30008 : k26 30008 = none := rfl
@[simp] theorem k26_30009 : k26 30009 = none := rfl
def k27 : Nat → Option (List Nat)
 | 0 => some [0]
 | 1 => some [1]
 | 2 => some [1, 3]
 | 3 => some [1, 3, 4]
 | 4 => some [1, 3, 4]
 | 5 => some [1, 3, 4]
 | 6 => some [1, 3, 4, 5]
 | 7 => some [1, 3, 4, 5]
 | 8 => some [1, 3, 4, 5]
 | 9 => some [1, 3, 4, 5]
 | 10 => some [3]
 | 20000 => some [3]
 | 20001 => some [1, 3, 4]
 | 9999 => some [2]
 | _ => none
attribute [simp] k27
@[simp] theorem k27_30000 : k27 30000 = none := rfl
@[simp] theorem k27_30001 : k27 30001 = none := rfl
@[simp] theorem k27_30002 : k27 30002 = none := rfl
@[simp] theorem k27_30003 : k27 30003 = none := rfl
@[simp] theorem k27_30004 : k27 30004 = none := rfl
@[simp] theorem k27_30005 : k27 30005 = none := rfl
@[simp] theorem k27_30006 : k27 30006 = none := rfl
@[simp] theorem k27_30007 : k27 30007 = none := rfl
@[simp] theorem k27_30008 : k27 30008 = none := rfl
@[simp] theorem k27_30009 : k27 30009 = none := rfl
@[simp] theorem k27_30010 : k27 30010 = none := rfl
def k28 : Nat → Option (List Nat)
 | 0 => some [0, 1]
 | 1 => some [1, 2]
 | 9999 => some [4]
 | _ => none
attribute [simp] k28
@[simp] theorem k28_30000 : k28 30000 = none := rfl
@[simp] theorem k28_30001 : k28 30001 = none := rfl
def k29 : Nat → Option (List Nat)
 | 0 => some [0, 1, 2]
 | 1 => some [1, 2, 3]
 | 2 => some [2, 7]
 | 3 => some [7]
 | 4 => some [7]
 | 9999 => some [6]
 | _ => none
attribute [simp] k29
@[simp] theorem k29_30000 : k29 30000 = none := rfl
@[simp] theorem k29_30001 : k29 30001 = none := rfl
@[simp] theorem k29_30002 : k29 30002 = none := rfl
@[simp] theorem k29_30003 : k29 30003 = none := rfl
@[simp] theorem k29_30004 : k29 30004 = none := rfl
def k30 : Nat → Option (List Nat)
 | 0 => some [0, 1]
 | 1 => some [0, 3]
 | 2 => some [0, 3, 5]
 | 3 => some [0, 3, 5]
 | 4 => some [0, 3, 5]
 | 5 => some [0]
 | 20000 => some [0]
 | 20001 => some [0, 3, 5]
 | 9999 => some [4]
 | _ => none
attribute [simp] k30
@[simp] theorem k30_30000 : k30 30000 = none := rfl
@[simp] theorem k30_30001 : k30 30001 = none := rfl
@[simp] theorem k30_30002 : k30 30002 = none := rfl
@[simp] theorem k30_30003 : k30 30003 = none := rfl
@[simp] theorem k30_30004 : k30 30004 = none := rfl
@[simp] theorem k30_30005 : k30 30005 = none := rfl
def k31 : Nat → Option (List Nat)
 | 0 => some [0]
 | 1 => some [1]
 | 2 => some [1, 3]
 | 3 => some [1, 3, 4]
 | 4 => some [1, 3, 4]
 | 5 => some [1, 3, 4]
 | 6 => some [1, 3, 4, 5]
 | 7 => some [1, 3, 4, 5, 6]
 | 8 => some [3]
 | 20000 => some [3]
 | 20001 => some [1, 3, 4]
 | 9999 => some [2]
 | _ => none
attribute [simp] k31
@[simp] theorem k31_30000 : k31 30000 = none := rfl
@[simp] theorem k31_30001 : k31 30001 = none := rfl
@[simp] theorem k31_30002 : k31 30002 = none := rfl
@[simp] theorem k31_30003 : k31 30003 = none := rfl
@[simp] theorem k31_30004 : k31 30004 = none := rfl
@[simp] theorem k31_30005 : k31 30005 = none := rfl
@[simp] theorem k31_30006 : k31 30006 = none := rfl
@[simp] theorem k31_30007 : k31 30007 = none := rfl
@[simp] theorem k31_30008 : k31 30008 = none := rfl
def k32 : Nat → Option (List Nat)
 | 0 => some [0]
 | 1 => some [1]
 | 9999 => some [2]
 | _ => none
attribute [simp] k32
@[simp] theorem k32_30000 : k32 30000 = none := rfl
@[simp] theorem k32_30001 : k32 30001 = none := rfl
def k33 : Nat → Option (List Nat)
 | 0 => some [0, 1]
 | 1 => some [1, 2]
 | 2 => some []
 | 3 => some [2]
 | 4 => some [2, 5]
 | 5 => some [2, 5]
 | 6 => some [2, 5]
 | 7 => some []
 | 8 => some []
 | 20000 => some []
 | 20001 => some [2, 5]
 | 9999 => some [4]
 | _ => none
attribute [simp] k33
@[simp] theorem k33_30000 : k33 30000 = none := rfl
@[simp] theorem k33_30001 : k33 30001 = none := rfl
@[simp] theorem k33_30002 : k33 30002 = none := rfl
@[simp] theorem k33_30003 : k33 30003 = none := rfl
@[simp] theorem k33_30004 : k33 30004 = none := rfl
@[simp] theorem k33_30005 : k33 30005 = none := rfl
@[simp] theorem k33_30006 : k33 30006 = none := rfl
@[simp] theorem k33_30007 : k33 30007 = none := rfl
@[simp] theorem k33_30008 : k33 30008 = none := rfl
def k34 : Nat → Option (List Nat)
 | 0 => some [0]
 | 1 => some [1]
 | 2 => some []
 | 3 => some [1]
 | 4 => some [1, 3]
 | 5 => some [1, 3, 4]
 | 6 => some [1, 3, 4, 5]
 | 7 => some [1, 3, 4, 5, 6]
 | 8 => some []
 | 9 => some [1, 3]
 | 10 => some [1, 3, 7]
 | 11 => some [1, 3, 7]
 | 12 => some [1, 3, 7]
 | 13 => some [1, 3, 7, 8]
 | 14 => some []
 | 15 => some [1]
 | 16 => some [1, 9]
 | 17 => some [1, 9]
 | 18 => some [1, 9]
 | 19 => some [1, 9, 10]
 | 20 => some []
 | 21 => some [1]
 | 22 => some [1, 11]
 | 23 => some [1, 11]
 | 24 => some [1, 11]
 | 25 => some [1, 11, 12]
 | 26 => some [1, 11, 12, 13]
 | 27 => some []
 | 28 => some [1, 11, 12]
 | 29 => some [1, 11, 12]
 | 30 => some [1, 11, 14]
 | 31 => some []
 | 32 => some []
 | 20000 => some [1]
 | 20001 => some [1, 3, 7]
 | 20002 => some [1]
 | 20003 => some [1, 9]
 | 20004 => some []
 | 20005 => some [1, 11]
 | 9999 => some [2]
 | _ => none
attribute [simp] k34
@[simp] theorem k34_30000 : k34 30000 = none := rfl
@[simp] theorem k34_30001 : k34 30001 = none := rfl
@[simp] theorem k34_30002 : k34 30002 = none := rfl
@[simp] theorem k34_30003 : k34 30003 = none := rfl
@[simp] theorem k34_30004 : k34 30004 = none := rfl
@[simp] theorem k34_30005 : k34 30005 = none := rfl
@[simp] theorem k34_30006 : k34 30006 = none := rfl
@[simp] theorem k34_30007 : k34 30007 = none := rfl
@[simp] theorem k34_30008 : k34 30008 = none := rfl
@[simp] theorem k34_30009 : k34 30009 = none := rfl
@[simp] theorem k34_30010 : k34 30010 = none := rfl
@[simp] theorem k34_30011 : k34 30011 = none := rfl
@[simp] theorem k34_30012 : k34 30012 = none := rfl
@[simp] theorem k34_30013 : k34 30013 = none := rfl
@[simp] theorem k34_30014 : k34 30014 = none := rfl
@[simp] theorem k34_30015 : k34 30015 = none := rfl
@[simp] theorem k34_30016 : k34 30016 = none := rfl
@[simp] theorem k34_30017 : k34 30017 = none := rfl
@[simp] theorem k34_30018 : k34 30018 = none := rfl
@[simp] theorem k34_30019 : k34 30019 = none := rfl
@[simp] theorem k34_30020 : k34 30020 = none := rfl
@[simp] theorem k34_30021 : k34 30021 = none := rfl
@[simp] theorem k34_30022 : k34 30022 = none := rfl
@[simp] theorem k34_30023 : k34 30023 = none := rfl
@[simp] theorem k34_30024 : k34 30024 = none := rfl
@[simp] theorem k34_30025 : k34 30025 = none := rfl
@[simp] theorem k34_30026 : k34 30026 = none := rfl
@[simp] theorem k34_30027 : k34 30027 = none := rfl
@[simp] theorem k34_30028 : k34 30028 = none := rfl
@[simp] theorem k34_30029 : k34 30029 = none := rfl
@[simp] theorem k34_30030 : k34 30030 = none := rfl
@[simp] theorem k34_30031 : k34 30031 = none := rfl
@[simp] theorem k34_30032 : k34 30032 = none := rfl
def k35 : Nat → Option (List Nat)
 | 0 => some [0, 1]
 | 1 => some [0, 1]
 | 2 => some [0, 1]
 | 3 => some [0, 1]
 | 4 => some [0, 1]
 | 5 => some [0, 1]
 | 6 => some [0]
 | 9999 => some [4]
 | _ => none
attribute [simp] k35
@[simp] theorem k35_30000 : k35 30000 = none := rfl
@[simp] theorem k35_30001 : k35 30001 = none := rfl
@[simp] theorem k35_30002 : k35 30002 = none := rfl
@[simp] theorem k35_30003 : k35 30003 = none := rfl
@[simp] theorem k35_30004 : k35 30004 = none := rfl
@[simp] theorem k35_30005 : k35 30005 = none := rfl
@[simp] theorem k35_30006 : k35 30006 = none := rfl
def k36 : Nat → Option (List Nat)
 | 0 => some [0]
 | 1 => some [0]
 | 2 => some [0, 3]
 | 3 => some [0, 3, 9, 10, 11]
 | 4 => some [0, 3, 9, 10, 11]
 | 5 => some [0, 3, 5, 9, 10, 11]
 | 6 => some [0, 3, 9, 10, 11]
 | 7 => some [0, 3, 9, 10, 11]
 | 8 => some [0, 3, 9, 10, 11]
 | 9 => some [0, 3]
 | 10 => some [0, 6]
 | 11 => some [6, 25, 26, 27]
 | 12 => some [6, 25, 26, 27]
 | 13 => some [6, 8, 25, 26, 27]
 | 14 => some [6, 25, 26, 27]
 | 15 => some [6]
 | 20000 => some [0, 3]
 | 20001 => some [0, 3, 9, 10, 11]
 | 20002 => some [6]
 | 20003 => some [6, 25, 26, 27]
 | 9999 => some [2]
 | _ => none
attribute [simp] k36
@[simp] theorem k36_30000 : k36 30000 = none := rfl
@[simp] theorem k36_30001 : k36 30001 = none := rfl
@[simp] theorem k36_30002 : k36 30002 = none := rfl
@[simp] theorem k36_30003 : k36 30003 = none := rfl
@[simp] theorem k36_30004 : k36 30004 = none := rfl
@[simp] theorem k36_30005 : k36 30005 = none := rfl
@[simp] theorem k36_30006 : k36 30006 = none := rfl
@[simp] theorem k36_30007 : k36 30007 = none := rfl
@[simp] theorem k36_30008 : k36 30008 = none := rfl
@[simp] theorem k36_30009 : k36 30009 = none := rfl
@[simp] theorem k36_30010 : k36 30010 = none := rfl
@[simp] theorem k36_30011 : k36 30011 = none := rfl
@[simp] theorem k36_30012 : k36 30012 = none := rfl
@[simp] theorem k36_30013 : k36 30013 = none := rfl
@[simp] theorem k36_30014 : k36 30014 = none := rfl
@[simp] theorem k36_30015 : k36 30015 = none := rfl
def k37 : Nat → Option (List Nat)
 | 0 => some [0, 1]
 | 1 => some [0, 1]
 | 2 => some [0, 1, 5]
 | 3 => some [0, 1, 5]
 | 4 => some [0, 1, 5]
 | 5 => some []
 | 6 => some [0]
 | 20000 => some [0]
 | 20001 => some [0, 1, 5]
 | 9999 => some [4]
 | _ => none
attribute [simp] k37
@[simp] theorem k37_30000 : k37 30000 = none := rfl
@[simp] theorem k37_30001 : k37 30001 = none := rfl
@[simp] theorem k37_30002 : k37 30002 = none := rfl
@[simp] theorem k37_30003 : k37 30003 = none := rfl
@[simp] theorem k37_30004 : k37 30004 = none := rfl
@[simp] theorem k37_30005 : k37 30005 = none := rfl
@[simp] theorem k37_30006 : k37 30006 = none := rfl
def k38 : Nat → Option (List Nat)
 | 0 => some [0]
 | 1 => some [0]
 | 2 => some [0, 3]
 | 3 => some [0, 3, 4]
 | 4 => some [0, 3, 4]
 | 5 => some [0, 3, 4, 5]
 | 6 => some []
 | 7 => some [0, 3, 4, 5]
 | 8 => some [0, 3, 4]
 | 9 => some [3]
 | 20000 => some [3]
 | 20001 => some [0, 3, 4]
 | 9999 => some [2]
 | _ => none
attribute [simp] k38
@[simp] theorem k38_30000 : k38 30000 = none := rfl
@[simp] theorem k38_30001 : k38 30001 = none := rfl
@[simp] theorem k38_30002 : k38 30002 = none := rfl
@[simp] theorem k38_30003 : k38 30003 = none := rfl
@[simp] theorem k38_30004 : k38 30004 = none := rfl
@[simp] theorem k38_30005 : k38 30005 = none := rfl
@[simp] theorem k38_30006 : k38 30006 = none := rfl
@[simp] theorem k38_30007 : k38 30007 = none := rfl
@[simp] theorem k38_30008 : k38 30008 = none := rfl
@[simp] theorem k38_30009 : k38 30009 = none := rfl
def k39 : Nat → Option (List Nat)
 | 0 => some [0, 1]
 | 1 => some [1, 2]
 | 2 => some [2, 5]
 | 3 => some [2]
 | 4 => some [2, 5]
 | 5 => some [2]
 | 6 => some [2, 5]
 | 7 => some [2]
 | 8 => some [2, 5]
 | 9 => some [2]
 | 10 => some [2, 5]
 | 11 => some [2]
 | 12 => some []
 | 20000 => some []
 | 9999 => some [4]
 | _ => none
attribute [simp] k39
@[simp] theorem k39_30000 : k39 30000 = none := rfl
@[simp] theorem k39_30001 : k39 30001 = none := rfl
@[simp] theorem k39_30002 : k39 30002 = none := rfl
@[simp] theorem k39_30003 : k39 30003 = none := rfl
@[simp] theorem k39_30004 : k39 30004 = none := rfl
@[simp] theorem k39_30005 : k39 30005 = none := rfl
@[simp] theorem k39_30006 : k39 30006 = none := rfl
@[simp] theorem k39_30007 : k39 30007 = none := rfl
@[simp] theorem k39_30008 : k39 30008 = none := rfl
@[simp] theorem k39_30009 : k39 30009 = none := rfl
@[simp] theorem k39_30010 : k39 30010 = none := rfl
@[simp] theorem k39_30011 : k39 30011 = none := rfl
@[simp] theorem k39_30012 : k39 30012 = none := rfl
def k40 : Nat → Option (List Nat)
 | 0 => some [0]
 | 1 => some [0]
 | 2 => some [0, 3]
 | 3 => some [0, 3, 4]
 | 4 => some [0, 3, 4]
 | 5 => some [0, 3, 4]
 | 6 => some [4]
 | 7 => some []
 | 20000 => some []
 | 20001 => some [0, 3, 4]
 | 9999 => some [2]
 | _ => none
attribute [simp] k40
@[simp] theorem k40_30000 : k40 30000 = none := rfl
@[simp] theorem k40_30001 : k40 30001 = none := rfl
@[simp] theorem k40_30002 : k40 30002 = none := rfl
@[simp] theorem k40_30003 : k40 30003 = none := rfl
@[simp] theorem k40_30004 : k40 30004 = none := rfl
@[simp] theorem k40_30005 : k40 30005 = none := rfl
@[simp] theorem k40_30006 : k40 30006 = none := rfl
@[simp] theorem k40_30007 : k40 30007 = none := rfl
def k41 : Nat → Option (List Nat)
 | 0 => some [0, 1]
 | 1 => some [2, 3]
 | 2 => some [2, 3, 5]
 | 3 => some [2, 3, 5, 6]
 | 9999 => some [4]
 | _ => none
attribute [simp] k41
@[simp] theorem k41_30000 : k41 30000 = none := rfl
@[simp] theorem k41_30001 : k41 30001 = none := rfl
@[simp] theorem k41_30002 : k41 30002 = none := rfl
@[simp] theorem k41_30003 : k41 30003 = none := rfl
def k42 : Nat → Option (List Nat)
 | 0 => some [0, 1]
 | 1 => some [0, 1]
 | 2 => some [0, 1]
 | 3 => some [0, 1]
 | 4 => some [0, 1]
 | 5 => some [0, 1]
 | 6 => some [0]
 | 9999 => some [4]
 | _ => none
attribute [simp] k42
@[simp] theorem k42_30000 : k42 30000 = none := rfl
@[simp] theorem k42_30001 : k42 30001 = none := rfl
@[simp] theorem k42_30002 : k42 30002 = none := rfl
@[simp] theorem k42_30003 : k42 30003 = none := rfl
@[simp] theorem k42_30004 : k42 30004 = none := rfl
@[simp] theorem k42_30005 : k42 30005 = none := rfl
@[simp] theorem k42_30006 : k42 30006 = none := rfl
def k43 : Nat → Option (List Nat)
 | 0 => some [0, 1]
 | 1 => some [0, 1]
 | 2 => some [0, 1, 5]
 | 3 => some [0, 1, 5, 6]
 | 4 => some [0, 1, 5, 6, 7]
 | 5 => some [0, 1, 6]
 | 6 => some [0, 1, 5, 6]
 | 7 => some [0, 1, 5, 6]
 | 8 => some [0, 1, 5, 6, 7]
 | 9 => some [0, 1, 6]
 | 10 => some [0, 1, 5, 6]
 | 11 => some [0, 1, 5, 6]
 | 12 => some [0, 1, 5, 6, 7]
 | 13 => some [0, 1, 6]
 | 14 => some [0, 1, 5, 6]
 | 15 => some [0, 1, 5, 6]
 | 16 => some [0, 1, 5, 6, 7]
 | 17 => some []
 | 18 => some [0, 1, 5, 6, 7]
 | 19 => some [0, 1, 5, 6, 7, 8]
 | 20 => some [0, 1, 5, 6, 7, 8]
 | 21 => some [0, 1, 5, 6, 7, 8]
 | 22 => some []
 | 23 => some [0, 1, 5, 6, 7, 8]
 | 24 => some [5, 6, 7]
 | 25 => some []
 | 26 => some [5]
 | 20000 => some [5, 6, 7]
 | 20001 => some [0, 1, 5, 6, 7, 8]
 | 9999 => some [4]
 | _ => none
attribute [simp] k43
@[simp] theorem k43_30000 : k43 30000 = none := rfl
@[simp] theorem k43_30001 : k43 30001 = none := rfl
@[simp] theorem k43_30002 : k43 30002 = none := rfl
@[simp] theorem k43_30003 : k43 30003 = none := rfl
@[simp] theorem k43_30004 : k43 30004 = none := rfl
@[simp] theorem k43_30005 : k43 30005 = none := rfl
@[simp] theorem k43_30006 : k43 30006 = none := rfl
@[simp] theorem k43_30007 : k43 30007 = none := rfl
@[simp] theorem k43_30008 : k43 30008 = none := rfl
@[simp] theorem k43_30009 : k43 30009 = none := rfl
@[simp] theorem k43_30010 : k43 30010 = none := rfl
@[simp] theorem k43_30011 : k43 30011 = none := rfl
@[simp] theorem k43_30012 : k43 30012 = none := rfl
@[simp] theorem k43_30013 : k43 30013 = none := rfl
@[simp] theorem k43_30014 : k43 30014 = none := rfl
@[simp] theorem k43_30015 : k43 30015 = none := rfl
@[simp] theorem k43_30016 : k43 30016 = none := rfl
@[simp] theorem k43_30017 : k43 30017 = none := rfl
@[simp] theorem k43_30018 : k43 30018 = none := rfl
@[simp] theorem k43_30019 : k43 30019 = none := rfl
@[simp] theorem k43_30020 : k43 30020 = none := rfl
@[simp] theorem k43_30021 : k43 30021 = none := rfl
@[simp] theorem k43_30022 : k43 30022 = none := rfl
@[simp] theorem k43_30023 : k43 30023 = none := rfl
@[simp] theorem k43_30024 : k43 30024 = none := rfl
@[simp] theorem k43_30025 : k43 30025 = none := rfl
@[simp] theorem k43_30026 : k43 30026 = none := rfl
def kt : Nat → Option (Nat → Option (List Nat))
 | 3 => some k3
 | 4 => some k4
 | 5 => some k5
 | 6 => some k6
 | 7 => some k7
 | 8 => some k8
 | 9 => some k9
 | 10 => some k10
 | 11 => some k11
 | 12 => some k12
 | 13 => some k13
 | 14 => some k14
 | 15 => some k15
 | 16 => some k16
 | 17 => some k17
 | 18 => some k18
 | 19 => some k19
 | 20 => some k20
 | 21 => some k21
 | 22 => some k22
 | 23 => some k23
 | 24 => some k24
 | 25 => some k25
 | 26 => some k26
 | 27 => some k27
 | 28 => some k28
 | 29 => some k29
 | 30 => some k30
 | 31 => some k31
 | 32 => some k32
 | 33 => some k33
 | 34 => some k34
 | 35 => some k35
 | 36 => some k36
 | 37 => some k37
 | 38 => some k38
 | 39 => some k39
 | 40 => some k40
 | 41 => some k41
 | 42 => some k42
 | 43 => some k43
 | _ => none
noncomputable abbrev ev := evCall Try.prog tyTab kt
theorem fn3 : Try.prog.funcs[3]? = some Try.f3 := by kernel_rfl
theorem fn4 : Try.prog.funcs[4]? = some Try.f4 := by kernel_rfl
theorem fn5 : Try.prog.funcs[5]? = some Try.f5 := by kernel_rfl
theorem fn6 : Try.prog.funcs[6]? = some Try.f6 := by kernel_rfl
theorem fn7 : Try.prog.funcs[7]? = some Try.f7 := by kernel_rfl
theorem fn8 : Try.prog.funcs[8]? = some Try.f8 := by kernel_rfl
theorem fn9 : Try.prog.funcs[9]? = some Try.f9 := by kernel_rfl
theorem fn10 : Try.prog.funcs[10]? = some Try.f10 := by kernel_rfl
theorem fn11 : Try.prog.funcs[11]? = some Try.f11 := by kernel_rfl
theorem fn12 : Try.prog.funcs[12]? = some Try.f12 := by kernel_rfl
theorem fn13 : Try.prog.funcs[13]? = some Try.f13 := by kernel_rfl
theorem fn14 : Try.prog.funcs[14]? = some Try.f14 := by kernel_rfl
theorem fn15 : Try.prog.funcs[15]? = some Try.f15 := by kernel_rfl
theorem fn16 : Try.prog.funcs[16]? = some Try.f16 := by kernel_rfl
theorem fn17 : Try.prog.funcs[17]? = some Try.f17 := by kernel_rfl
theorem fn18 : Try.prog.funcs[18]? = some Try.f18 := by kernel_rfl
theorem fn19 : Try.prog.funcs[19]? = some Try.f19 := by kernel_rfl
theorem fn20 : Try.prog.funcs[20]? = some Try.f20 := by kernel_rfl
theorem fn21 : Try.prog.funcs[21]? = some Try.f21 := by kernel_rfl
theorem fn22 : Try.prog.funcs[22]? = some Try.f22 := by kernel_rfl
theorem fn23 : Try.prog.funcs[23]? = some Try.f23 := by kernel_rfl
theorem fn24 : Try.prog.funcs[24]? = some Try.f24 := by kernel_rfl
theorem fn25 : Try.prog.funcs[25]? = some Try.f25 := by kernel_rfl
theorem fn26 : Try.prog.funcs[26]? = some Try.f26 := by kernel_rfl
theorem fn27 : Try.prog.funcs[27]? = some Try.f27 := by kernel_rfl
theorem fn28 : Try.prog.funcs[28]? = some Try.f28 := by kernel_rfl
theorem fn29 : Try.prog.funcs[29]? = some Try.f29 := by kernel_rfl
theorem fn30 : Try.prog.funcs[30]? = some Try.f30 := by kernel_rfl
theorem fn31 : Try.prog.funcs[31]? = some Try.f31 := by kernel_rfl
theorem fn32 : Try.prog.funcs[32]? = some Try.f32 := by kernel_rfl
theorem fn33 : Try.prog.funcs[33]? = some Try.f33 := by kernel_rfl
theorem fn34 : Try.prog.funcs[34]? = some Try.f34 := by kernel_rfl
theorem fn35 : Try.prog.funcs[35]? = some Try.f35 := by kernel_rfl
theorem fn36 : Try.prog.funcs[36]? = some Try.f36 := by kernel_rfl
theorem fn37 : Try.prog.funcs[37]? = some Try.f37 := by kernel_rfl
theorem fn38 : Try.prog.funcs[38]? = some Try.f38 := by kernel_rfl
theorem fn39 : Try.prog.funcs[39]? = some Try.f39 := by kernel_rfl
theorem fn40 : Try.prog.funcs[40]? = some Try.f40 := by kernel_rfl
theorem fn41 : Try.prog.funcs[41]? = some Try.f41 := by kernel_rfl
theorem fn42 : Try.prog.funcs[42]? = some Try.f42 := by kernel_rfl
theorem fn43 : Try.prog.funcs[43]? = some Try.f43 := by kernel_rfl
def bodyOk (kp : Nat → Option (List Nat)) (f : Func) : Bool := f.body.all (okCode (goodK kp))
theorem ok3 : bodyOk k3 Try.f3 = true := by kernel_rfl
theorem ok4 : bodyOk k4 Try.f4 = true := by kernel_rfl
theorem ok5 : bodyOk k5 Try.f5 = true := by kernel_rfl
theorem ok6 : bodyOk k6 Try.f6 = true := by kernel_rfl
theorem ok7 : bodyOk k7 Try.f7 = true := by kernel_rfl
theorem ok8 : bodyOk k8 Try.f8 = true := by kernel_rfl
theorem ok9 : bodyOk k9 Try.f9 = true := by kernel_rfl
theorem ok10 : bodyOk k10 Try.f10 = true := by kernel_rfl
theorem ok11 : bodyOk k11 Try.f11 = true := by kernel_rfl
theorem ok12 : bodyOk k12 Try.f12 = true := by kernel_rfl
theorem ok13 : bodyOk k13 Try.f13 = true := by kernel_rfl
theorem ok14 : bodyOk k14 Try.f14 = true := by kernel_rfl
theorem ok15 : bodyOk k15 Try.f15 = true := by kernel_rfl
theorem ok16 : bodyOk k16 Try.f16 = true := by kernel_rfl
theorem ok17 : bodyOk k17 Try.f17 = true := by kernel_rfl
theorem ok18 : bodyOk k18 Try.f18 = true := by kernel_rfl
theorem ok19 : bodyOk k19 Try.f19 = true := by kernel_rfl
theorem ok20 : bodyOk k20 Try.f20 = true := by kernel_rfl
theorem ok21 : bodyOk k21 Try.f21 = true := by kernel_rfl
theorem ok22 : bodyOk k22 Try.f22 = true := by kernel_rfl
theorem ok23 : bodyOk k23 Try.f23 = true := by kernel_rfl
theorem ok24 : bodyOk k24 Try.f24 = true := by kernel_rfl
theorem ok25 : bodyOk k25 Try.f25 = true := by kernel_rfl
theorem ok26 : bodyOk k26 Try.f26 = true := by kernel_rfl
theorem ok27 : bodyOk k27 Try.f27 = true := by kernel_rfl
theorem ok28 : bodyOk k28 Try.f28 = true := by kernel_rfl
theorem ok29 : bodyOk k29 Try.f29 = true := by kernel_rfl
theorem ok30 : bodyOk k30 Try.f30 = true := by kernel_rfl
theorem ok31 : bodyOk k31 Try.f31 = true := by kernel_rfl
theorem ok32 : bodyOk k32 Try.f32 = true := by kernel_rfl
theorem ok33 : bodyOk k33 Try.f33 = true := by kernel_rfl
theorem ok34 : bodyOk k34 Try.f34 = true := by kernel_rfl
theorem ok35 : bodyOk k35 Try.f35 = true := by kernel_rfl
theorem ok36 : bodyOk k36 Try.f36 = true := by kernel_rfl
theorem ok37 : bodyOk k37 Try.f37 = true := by kernel_rfl
theorem ok38 : bodyOk k38 Try.f38 = true := by kernel_rfl
theorem ok39 : bodyOk k39 Try.f39 = true := by kernel_rfl
theorem ok40 : bodyOk k40 Try.f40 = true := by kernel_rfl
theorem ok41 : bodyOk k41 Try.f41 = true := by kernel_rfl
theorem ok42 : bodyOk k42 Try.f42 = true := by kernel_rfl
theorem ok43 : bodyOk k43 Try.f43 = true := by kernel_rfl
theorem kOk : okProgram goodK Try.prog kt := by
 intro f fn c kp hk hf hb
 have gen : ∀ (g : Func) (q : Nat → Option (List Nat)), bodyOk q g = true → g = fn → some q = some kp → okCode (goodK kp) c = true := fun g q h e e2 => by
  subst e
  cases e2
  simp only [bodyOk, hb, Option.all_some] at h
  exact h
 unfold kt at hk
 split at hk
 ·exact gen _ _ ok3 (by rw [fn3] at hf; injection hf) hk
 ·exact gen _ _ ok4 (by rw [fn4] at hf; injection hf) hk
 ·exact gen _ _ ok5 (by rw [fn5] at hf; injection hf) hk
 ·exact gen _ _ ok6 (by rw [fn6] at hf; injection hf) hk
 ·exact gen _ _ ok7 (by rw [fn7] at hf; injection hf) hk
 ·exact gen _ _ ok8 (by rw [fn8] at hf; injection hf) hk
 ·exact gen _ _ ok9 (by rw [fn9] at hf; injection hf) hk
 ·exact gen _ _ ok10 (by rw [fn10] at hf; injection hf) hk
 ·exact gen _ _ ok11 (by rw [fn11] at hf; injection hf) hk
 ·exact gen _ _ ok12 (by rw [fn12] at hf; injection hf) hk
 ·exact gen _ _ ok13 (by rw [fn13] at hf; injection hf) hk
 ·exact gen _ _ ok14 (by rw [fn14] at hf; injection hf) hk
 ·exact gen _ _ ok15 (by rw [fn15] at hf; injection hf) hk
 ·exact gen _ _ ok16 (by rw [fn16] at hf; injection hf) hk
 ·exact gen _ _ ok17 (by rw [fn17] at hf; injection hf) hk
 ·exact gen _ _ ok18 (by rw [fn18] at hf; injection hf) hk
 ·exact gen _ _ ok19 (by rw [fn19] at hf; injection hf) hk
 ·exact gen _ _ ok20 (by rw [fn20] at hf; injection hf) hk
 ·exact gen _ _ ok21 (by rw [fn21] at hf; injection hf) hk
 ·exact gen _ _ ok22 (by rw [fn22] at hf; injection hf) hk
 ·exact gen _ _ ok23 (by rw [fn23] at hf; injection hf) hk
 ·exact gen _ _ ok24 (by rw [fn24] at hf; injection hf) hk
 ·exact gen _ _ ok25 (by rw [fn25] at hf; injection hf) hk
 ·exact gen _ _ ok26 (by rw [fn26] at hf; injection hf) hk
 ·exact gen _ _ ok27 (by rw [fn27] at hf; injection hf) hk
 ·exact gen _ _ ok28 (by rw [fn28] at hf; injection hf) hk
 ·exact gen _ _ ok29 (by rw [fn29] at hf; injection hf) hk
 ·exact gen _ _ ok30 (by rw [fn30] at hf; injection hf) hk
 ·exact gen _ _ ok31 (by rw [fn31] at hf; injection hf) hk
 ·exact gen _ _ ok32 (by rw [fn32] at hf; injection hf) hk
 ·exact gen _ _ ok33 (by rw [fn33] at hf; injection hf) hk
 ·exact gen _ _ ok34 (by rw [fn34] at hf; injection hf) hk
 ·exact gen _ _ ok35 (by rw [fn35] at hf; injection hf) hk
 ·exact gen _ _ ok36 (by rw [fn36] at hf; injection hf) hk
 ·exact gen _ _ ok37 (by rw [fn37] at hf; injection hf) hk
 ·exact gen _ _ ok38 (by rw [fn38] at hf; injection hf) hk
 ·exact gen _ _ ok39 (by rw [fn39] at hf; injection hf) hk
 ·exact gen _ _ ok40 (by rw [fn40] at hf; injection hf) hk
 ·exact gen _ _ ok41 (by rw [fn41] at hf; injection hf) hk
 ·exact gen _ _ ok42 (by rw [fn42] at hf; injection hf) hk
 ·exact gen _ _ ok43 (by rw [fn43] at hf; injection hf) hk
 ·cases hk
end Go.Proofs.Ythmnnieiibeiaaa

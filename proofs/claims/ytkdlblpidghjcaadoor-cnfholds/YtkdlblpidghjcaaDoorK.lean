/- What each function still asks for at its loops' heads, and at its ends; its regions may run in any order. No condition. -/
import Derived.Test.YtkdlblpidghjcaaDoorTy
import Derived.Test.YtkdlblpidghjcaaDoorGl
namespace Go.Proofs.YtkdlblpidghjcaaDoor
open Go.Vabs
def k3 : Nat → Option (List Nat)
 | 0 => some [0, 1, 2]
 | 1 => some [2, 3, 4]
 | 2 => some [2, 3, 4, 7]
 | 3 => some [7]
 | 4 => some [2, 3, 4, 7]
 | 5 => some [2, 3, 4, 7, 8, 9]
 | 6 => some [2, 3, 4, 7, 8, 9, 10, 11]
 | 7 => some [2, 3, 4, 7, 8, 9, 10, 11, 12, 13, 14]
 | 8 => some [3, 4, 7, 8, 9, 10, 11, 12, 13, 14, 15, 16, 17]
 | 9999 => some [6]
 | _ => none
attribute [simp] k3
@[simp] theorem k3_30000 : k3 30000 = none := rfl
@[simp] theorem k3_30001 : k3 30001 = none := rfl
@[simp] theorem k3_30002 : k3 30002 = none := rfl
@[simp] theorem k3_30003 : k3 30003 = none := rfl
@[simp] theorem k3_30004 : k3 30004 = none := rfl
@[simp] theorem k3_30005 : k3 30005 = none := rfl
@[simp] theorem k3_30006 : k3 30006 = none := rfl
@[simp] theorem k3_30007 : k3 30007 = none := rfl
@[simp] theorem k3_30008 : k3 30008 = none := rfl
def k4 : Nat → Option (List Nat)
 | 0 => some [0]
 | 1 => some [1]
 | 2 => some [1, 3]
 | 3 => some [1, 3, 4]
 | 4 => some [1, 3, 4, 5]
 | 5 => some [3, 4, 5, 6]
 | 6 => some [3, 4, 5, 6, 7]
 | 7 => some [7]
 | 8 => some [3, 4, 5, 6, 7]
 | 9 => some [3, 4, 5, 6, 7, 8, 9, 10]
 | 10 => some [3, 6, 7, 8, 9, 10, 11, 12, 13]
 | 11 => some []
 | 12 => some [3, 6, 7]
 | 13 => some [3, 6, 7, 14]
 | 14 => some [3, 6, 7, 14]
 | 15 => some [3, 6, 7, 14]
 | 16 => some []
 | 17 => some [3, 6, 7]
 | 20000 => some [3, 6, 7]
 | 20001 => some [3, 6, 7, 14]
 | 9999 => some [2]
 | _ => none
attribute [simp] k4
@[simp] theorem k4_30000 : k4 30000 = none := rfl
@[simp] theorem k4_30001 : k4 30001 = none := rfl
@[simp] theorem k4_30002 : k4 30002 = none := rfl
@[simp] theorem k4_30003 : k4 30003 = none := rfl
@[simp] theorem k4_30004 : k4 30004 = none := rfl
@[simp] theorem k4_30005 : k4 30005 = none := rfl
@[simp] theorem k4_30006 : k4 30006 = none := rfl
@[simp] theorem k4_30007 : k4 30007 = none := rfl
@[simp] theorem k4_30008 : k4 30008 = none := rfl
@[simp] theorem k4_30009 : k4 30009 = none := rfl
@[simp] theorem k4_30010 : k4 30010 = none := rfl
@[simp] theorem k4_30011 : k4 30011 = none := rfl
@[simp] theorem k4_30012 : k4 30012 = none := rfl
@[simp] theorem k4_30013 : k4 30013 = none := rfl
@[simp] theorem k4_30014 : k4 30014 = none := rfl
@[simp] theorem k4_30015 : k4 30015 = none := rfl
@[simp] theorem k4_30016 : k4 30016 = none := rfl
@[simp] theorem k4_30017 : k4 30017 = none := rfl
def k5 : Nat → Option (List Nat)
 | 0 => some [0, 1, 2]
 | 1 => some [1, 2, 3]
 | 2 => some [1, 2, 3, 7]
 | 3 => some [7]
 | 4 => some [1, 2, 3, 7]
 | 5 => some [1, 2, 3, 7, 8, 9]
 | 6 => some []
 | 7 => some [1, 2, 3, 7, 8, 9]
 | 8 => some [1, 2, 3, 7, 8]
 | 9 => some [1, 2, 3, 7, 8, 10, 11, 12]
 | 10 => some []
 | 11 => some [1, 2, 7]
 | 12 => some [1, 2, 7, 13]
 | 13 => some [1, 2, 7, 13, 14, 15, 16]
 | 14 => some []
 | 15 => some [1, 7]
 | 16 => some [1, 7, 17, 18, 19]
 | 17 => some []
 | 18 => some [1, 7, 17, 18, 19]
 | 19 => some [7, 17]
 | 20 => some [1, 7, 17, 18]
 | 21 => some [1, 7, 17, 18, 20, 21]
 | 9999 => some [6]
 | _ => none
attribute [simp] k5
@[simp] theorem k5_30000 : k5 30000 = none := rfl
@[simp] theorem k5_30001 : k5 30001 = none := rfl
@[simp] theorem k5_30002 : k5 30002 = none := rfl
@[simp] theorem k5_30003 : k5 30003 = none := rfl
@[simp] theorem k5_30004 : k5 30004 = none := rfl
@[simp] theorem k5_30005 : k5 30005 = none := rfl
@[simp] theorem k5_30006 : k5 30006 = none := rfl
@[simp] theorem k5_30007 : k5 30007 = none := rfl
@[simp] theorem k5_30008 : k5 30008 = none := rfl
@[simp] theorem k5_30009 : k5 30009 = none := rfl
@[simp] theorem k5_30010 : k5 30010 = none := rfl
@[simp] theorem k5_30011 : k5 30011 = none := rfl
@[simp] theorem k5_30012 : k5 30012 = none := rfl
@[simp] theorem k5_30013 : k5 30013 = none := rfl
@[simp] theorem k5_30014 : k5 30014 = none := rfl
@[simp] theorem k5_30015 : k5 30015 = none := rfl
@[simp] theorem k5_30016 : k5 30016 = none := rfl
@[simp] theorem k5_30017 : k5 30017 = none := rfl
@[simp] theorem k5_30018 : k5 30018 = none := rfl
@[simp] theorem k5_30019 : k5 30019 = none := rfl
@[simp] theorem k5_30020 : k5 30020 = none := rfl
@[simp] theorem k5_30021 : k5 30021 = none := rfl
def k6 : Nat → Option (List Nat)
 | 0 => some [0]
 | 1 => some [1]
 | 2 => some [1, 3]
 | 3 => some [1, 3, 4]
 | 4 => some [1, 3, 4, 5]
 | 5 => some [3, 4, 5, 6]
 | 6 => some [3, 4, 5, 6, 7]
 | 7 => some [7]
 | 8 => some [3, 4, 5, 6, 7]
 | 9 => some [3, 4, 5, 6, 7, 8]
 | 10 => some [3, 4, 5, 6, 7, 8, 9]
 | 11 => some [3, 4, 5, 6, 7, 8, 9, 10]
 | 12 => some [3, 4, 5, 6, 7, 8, 9, 10, 11]
 | 13 => some [3, 4, 5, 7, 8, 9, 10, 11, 12]
 | 30008 => some [3, 5, 44, 50]
 | 9999 => some [2]
 | _ => none
attribute [simp] k6
@[simp] theorem k6_30000 : k6 30000 = none := rfl
@[simp] theorem k6_30001 : k6 30001 = none := rfl
@[simp] theorem k6_30002 : k6 30002 = none := rfl
@[simp] theorem k6_30003 : k6 30003 = none := rfl
@[simp] theorem k6_30004 : k6 30004 = none := rfl
@[simp] theorem k6_30005 : k6 30005 = none := rfl
@[simp] theorem k6_30006 : k6 30006 = none := rfl
@[simp] theorem k6_30007 : k6 30007 = none := rfl
@[simp] theorem k6_30009 : k6 30009 = none := rfl
@[simp] theorem k6_30010 : k6 30010 = none := rfl
@[simp] theorem k6_30011 : k6 30011 = none := rfl
@[simp] theorem k6_30012 : k6 30012 = none := rfl
@[simp] theorem k6_30013 : k6 30013 = none := rfl
def k7 : Nat → Option (List Nat)
 | 0 => some [0]
 | 1 => some [1]
 | 2 => some [1, 3]
 | 3 => some [1, 3, 4]
 | 4 => some [1, 3, 4, 5]
 | 5 => some [3, 4, 5, 6]
 | 6 => some [3, 4, 5, 6, 7]
 | 7 => some [7]
 | 8 => some [3, 4, 5, 6, 7]
 | 9 => some [3, 4, 5, 6, 7, 8, 9]
 | 10 => some [3, 4, 5, 6, 7, 8, 9, 10, 11]
 | 9999 => some [2]
 | _ => none
attribute [simp] k7
@[simp] theorem k7_30000 : k7 30000 = none := rfl
@[simp] theorem k7_30001 : k7 30001 = none := rfl
@[simp] theorem k7_30002 : k7 30002 = none := rfl
@[simp] theorem k7_30003 : k7 30003 = none := rfl
@[simp] theorem k7_30004 : k7 30004 = none := rfl
@[simp] theorem k7_30005 : k7 30005 = none := rfl
@[simp] theorem k7_30006 : k7 30006 = none := rfl
@[simp] theorem k7_30007 : k7 30007 = none := rfl
@[simp] theorem k7_30008 : k7 30008 = none := rfl
@[simp] theorem k7_30009 : k7 30009 = none := rfl
@[simp] theorem k7_30010 : k7 30010 = none := rfl
def k8 : Nat → Option (List Nat)
 | 0 => some [0, 1, 2]
 | 1 => some [1, 2, 3]
 | 2 => some [1, 2, 3, 7]
 | 3 => some [7]
 | 4 => some [1, 2, 3, 7]
 | 5 => some [1, 2, 7, 8, 9]
 | 6 => some []
 | 7 => some [1, 2, 7, 8]
 | 8 => some [2, 7, 8, 11, 12]
 | 9 => some [7, 8, 11, 12, 13]
 | 10 => some [7, 8, 11, 12, 13, 15, 16]
 | 9999 => some [6]
 | _ => none
attribute [simp] k8
@[simp] theorem k8_30000 : k8 30000 = none := rfl
@[simp] theorem k8_30001 : k8 30001 = none := rfl
@[simp] theorem k8_30002 : k8 30002 = none := rfl
@[simp] theorem k8_30003 : k8 30003 = none := rfl
@[simp] theorem k8_30004 : k8 30004 = none := rfl
@[simp] theorem k8_30005 : k8 30005 = none := rfl
@[simp] theorem k8_30006 : k8 30006 = none := rfl
@[simp] theorem k8_30007 : k8 30007 = none := rfl
@[simp] theorem k8_30008 : k8 30008 = none := rfl
@[simp] theorem k8_30009 : k8 30009 = none := rfl
@[simp] theorem k8_30010 : k8 30010 = none := rfl
def k9 : Nat → Option (List Nat)
 | 0 => some [0, 1]
 | 1 => some [1, 2]
 | 2 => some [1, 2, 5]
 | 3 => some [5]
 | 4 => some [1, 2, 5]
 | 5 => some [1, 2, 5, 6]
 | 6 => some [1, 2, 5, 6, 7]
 | 7 => some [1, 2, 5, 6, 7]
 | 8 => some [1, 2, 5, 6, 7]
 | 9 => some [1, 2, 5, 6, 7, 8]
 | 10 => some [1, 2, 5, 6, 7, 8, 9]
 | 11 => some [1, 2, 5, 6, 7, 8, 9]
 | 12 => some [1, 2, 5, 6, 7, 8, 9]
 | 13 => some [1, 2, 5, 6, 7, 8]
 | 14 => some [1, 2, 5, 6]
 | 15 => some [1, 2, 5, 6, 10]
 | 16 => some [1, 2, 5, 6, 10, 11]
 | 17 => some [1, 2, 5, 6, 10, 11]
 | 18 => some [1, 2, 5, 6, 10, 11]
 | 19 => some [1, 2, 5, 6, 10]
 | 20000 => some [1, 2, 5, 6]
 | 20001 => some [1, 2, 5, 6, 7]
 | 20002 => some [1, 2, 5, 6, 7, 8]
 | 20003 => some [1, 2, 5, 6, 7, 8, 9]
 | 20004 => some [1, 2, 5, 6, 10]
 | 20005 => some [1, 2, 5, 6, 10, 11]
 | 9999 => some [4]
 | _ => none
attribute [simp] k9
@[simp] theorem k9_30000 : k9 30000 = none := rfl
@[simp] theorem k9_30001 : k9 30001 = none := rfl
@[simp] theorem k9_30002 : k9 30002 = none := rfl
@[simp] theorem k9_30003 : k9 30003 = none := rfl
@[simp] theorem k9_30004 : k9 30004 = none := rfl
@[simp] theorem k9_30005 : k9 30005 = none := rfl
@[simp] theorem k9_30006 : k9 30006 = none := rfl
@[simp] theorem k9_30007 : k9 30007 = none := rfl
@[simp] theorem k9_30008 : k9 30008 = none := rfl
@[simp] theorem k9_30009 : k9 30009 = none := rfl
@[simp] theorem k9_30010 : k9 30010 = none := rfl
@[simp] theorem k9_30011 : k9 30011 = none := rfl
@[simp] theorem k9_30012 : k9 30012 = none := rfl
@[simp] theorem k9_30013 : k9 30013 = none := rfl
@[simp] theorem k9_30014 : k9 30014 = none := rfl
@[simp] theorem k9_30015 : k9 30015 = none := rfl
@[simp] theorem k9_30016 : k9 30016 = none := rfl
@[simp] theorem k9_30017 : k9 30017 = none := rfl
@[simp] theorem k9_30018 : k9 30018 = none := rfl
@[simp] theorem k9_30019 : k9 30019 = none := rfl
def k10 : Nat → Option (List Nat)
 | 0 => some []
 | 1 => some []
 | 2 => some [1]
 | 3 => some [1, 2, 3]
 | 4 => some [1, 2, 3, 4, 5, 6]
 | 5 => some [1, 2, 3, 4, 5, 6, 7, 8, 9]
 | 9999 => some [0]
 | _ => none
attribute [simp] k10
@[simp] theorem k10_30000 : k10 30000 = none := rfl
@[simp] theorem k10_30001 : k10 30001 = none := rfl
@[simp] theorem k10_30002 : k10 30002 = none := rfl
@[simp] theorem k10_30003 : k10 30003 = none := rfl
@[simp] theorem k10_30004 : k10 30004 = none := rfl
@[simp] theorem k10_30005 : k10 30005 = none := rfl
def k11 : Nat → Option (List Nat)
 | 0 => some [0, 1]
 | 1 => some [1, 2]
 | 2 => some []
 | 3 => some [1, 2]
 | 4 => some [1, 2, 5]
 | 5 => some [1, 2, 5]
 | 6 => some [1, 2, 5]
 | 7 => some []
 | 8 => some []
 | 20000 => some []
 | 20001 => some [1, 2, 5]
 | 9999 => some [4]
 | _ => none
attribute [simp] k11
@[simp] theorem k11_30000 : k11 30000 = none := rfl
@[simp] theorem k11_30001 : k11 30001 = none := rfl
@[simp] theorem k11_30002 : k11 30002 = none := rfl
@[simp] theorem k11_30003 : k11 30003 = none := rfl
@[simp] theorem k11_30004 : k11 30004 = none := rfl
@[simp] theorem k11_30005 : k11 30005 = none := rfl
@[simp] theorem k11_30006 : k11 30006 = none := rfl
@[simp] theorem k11_30007 : k11 30007 = none := rfl
@[simp] theorem k11_30008 : k11 30008 = none := rfl
def k12 : Nat → Option (List Nat)
 | 0 => some [0]
 | 1 => some [1]
 | 2 => some []
 | 3 => some [1]
 | 4 => some [1, 4]
 | 5 => some [4, 19, 20, 21]
 | 6 => some [4, 19, 20, 21]
 | 7 => some [4, 6, 19, 20, 21]
 | 8 => some [4, 19, 20, 21]
 | 9 => some [4]
 | 20000 => some [4]
 | 20001 => some [4, 19, 20, 21]
 | 9999 => some [2, 3]
 | _ => none
attribute [simp] k12
@[simp] theorem k12_30000 : k12 30000 = none := rfl
@[simp] theorem k12_30001 : k12 30001 = none := rfl
@[simp] theorem k12_30002 : k12 30002 = none := rfl
@[simp] theorem k12_30003 : k12 30003 = none := rfl
@[simp] theorem k12_30004 : k12 30004 = none := rfl
@[simp] theorem k12_30005 : k12 30005 = none := rfl
@[simp] theorem k12_30006 : k12 30006 = none := rfl
@[simp] theorem k12_30007 : k12 30007 = none := rfl
@[simp] theorem k12_30008 : k12 30008 = none := rfl
@[simp] theorem k12_30009 : k12 30009 = none := rfl
def k13 : Nat → Option (List Nat)
 | 0 => some [0]
 | 1 => some [1]
 | 2 => some [1, 4]
 | 3 => some []
 | 4 => some [1]
 | 5 => some [1, 5]
 | 6 => some [1, 5, 6]
 | 7 => some [1, 5, 6]
 | 8 => some [1, 5, 6]
 | 9 => some [1, 5, 6, 7]
 | 10 => some [1, 5, 6, 7]
 | 11 => some [1, 5, 6, 7]
 | 12 => some [1, 5, 6]
 | 13 => some [5]
 | 20000 => some [5]
 | 20001 => some [1, 5, 6]
 | 20002 => some [1, 5, 6]
 | 20003 => some [1, 5, 6, 7]
 | 9999 => some [2, 3]
 | _ => none
attribute [simp] k13
@[simp] theorem k13_30000 : k13 30000 = none := rfl
@[simp] theorem k13_30001 : k13 30001 = none := rfl
@[simp] theorem k13_30002 : k13 30002 = none := rfl
@[simp] theorem k13_30003 : k13 30003 = none := rfl
@[simp] theorem k13_30004 : k13 30004 = none := rfl
@[simp] theorem k13_30005 : k13 30005 = none := rfl
@[simp] theorem k13_30006 : k13 30006 = none := rfl
@[simp] theorem k13_30007 : k13 30007 = none := rfl
@[simp] theorem k13_30008 : k13 30008 = none := rfl
@[simp] theorem k13_30009 : k13 30009 = none := rfl
@[simp] theorem k13_30010 : k13 30010 = none := rfl
@[simp] theorem k13_30011 : k13 30011 = none := rfl
@[simp] theorem k13_30012 : k13 30012 = none := rfl
@[simp] theorem k13_30013 : k13 30013 = none := rfl
def k14 : Nat → Option (List Nat)
 | 0 => some [0]
 | 1 => some [0, 2]
 | 2 => some [2]
 | 3 => some [0, 2]
 | 4 => some [2, 5]
 | 5 => some [2, 5]
 | 6 => some [2, 5, 6]
 | 7 => some [2, 5, 6]
 | 8 => some [2, 5, 6, 7]
 | 9 => some [2, 5, 6, 7]
 | 10 => some [2, 5, 6, 27, 28]
 | 11 => some [2, 5, 6, 27, 28]
 | 12 => some [2, 5, 6, 8, 27, 28]
 | 13 => some [2, 5, 6, 8, 27, 28]
 | 14 => some [2, 5, 6, 27, 28]
 | 15 => some [2, 5, 6]
 | 16 => some [2, 5, 6]
 | 17 => some [2, 5]
 | 18 => some [2, 5, 6]
 | 20000 => some [2, 5, 6]
 | 20001 => some [2, 5, 6, 27, 28]
 | 30017 => some [100005, 100054, 100055, 100056, 100058, 100059, 100060]
 | 30018 => some [100005, 100063, 100064, 100065]
 | 9999 => some [2, 3, 4]
 | _ => none
attribute [simp] k14
@[simp] theorem k14_30000 : k14 30000 = none := rfl
@[simp] theorem k14_30001 : k14 30001 = none := rfl
@[simp] theorem k14_30002 : k14 30002 = none := rfl
@[simp] theorem k14_30003 : k14 30003 = none := rfl
@[simp] theorem k14_30004 : k14 30004 = none := rfl
@[simp] theorem k14_30005 : k14 30005 = none := rfl
@[simp] theorem k14_30006 : k14 30006 = none := rfl
@[simp] theorem k14_30007 : k14 30007 = none := rfl
@[simp] theorem k14_30008 : k14 30008 = none := rfl
@[simp] theorem k14_30009 : k14 30009 = none := rfl
@[simp] theorem k14_30010 : k14 30010 = none := rfl
@[simp] theorem k14_30011 : k14 30011 = none := rfl
@[simp] theorem k14_30012 : k14 30012 = none := rfl
@[simp] theorem k14_30013 : k14 30013 = none := rfl
@[simp] theorem k14_30014 : k14 30014 = none := rfl
@[simp] theorem k14_30015 : k14 30015 = none := rfl
@[simp] theorem k14_30016 : k14 30016 = none := rfl
def k15 : Nat → Option (List Nat)
 | 0 => some [0]
 | 1 => some [0, 2]
 | 2 => some [2]
 | 3 => some [0, 2]
 | 4 => some [2, 5, 6]
 | 5 => some [2, 5, 7, 8]
 | 6 => some [2, 5, 7, 9]
 | 7 => some [2, 5, 7, 9, 10]
 | 8 => some [2, 5, 7, 9, 10, 11]
 | 9 => some [2, 5, 7, 9, 10, 11]
 | 10 => some [2, 5, 7, 9, 10, 11]
 | 11 => some [2, 5, 7, 9, 10, 11, 12, 13]
 | 12 => some [2, 5, 7, 9, 10, 11, 13]
 | 13 => some [2, 9, 10]
 | 14 => some [2, 9, 10]
 | 15 => some [2, 9]
 | 16 => some [2, 9, 10]
 | 20000 => some [2, 9, 10]
 | 20001 => some [2, 5, 7, 9, 10, 11]
 | 30015 => some [100009, 100064, 100066]
 | 30016 => some [100009, 100069]
 | 9999 => some [2, 3, 4]
 | _ => none
attribute [simp] k15
@[simp] theorem k15_30000 : k15 30000 = none := rfl
@[simp] theorem k15_30001 : k15 30001 = none := rfl
@[simp] theorem k15_30002 : k15 30002 = none := rfl
@[simp] theorem k15_30003 : k15 30003 = none := rfl
@[simp] theorem k15_30004 : k15 30004 = none := rfl
@[simp] theorem k15_30005 : k15 30005 = none := rfl
@[simp] theorem k15_30006 : k15 30006 = none := rfl
@[simp] theorem k15_30007 : k15 30007 = none := rfl
@[simp] theorem k15_30008 : k15 30008 = none := rfl
@[simp] theorem k15_30009 : k15 30009 = none := rfl
@[simp] theorem k15_30010 : k15 30010 = none := rfl
@[simp] theorem k15_30011 : k15 30011 = none := rfl
@[simp] theorem k15_30012 : k15 30012 = none := rfl
@[simp] theorem k15_30013 : k15 30013 = none := rfl
@[simp] theorem k15_30014 : k15 30014 = none := rfl
def k16 : Nat → Option (List Nat)
 | 0 => some [0]
 | 1 => some [1]
 | 2 => some [1, 3]
 | 3 => some [1, 4]
 | 9999 => some [2]
 | _ => none
attribute [simp] k16
@[simp] theorem k16_30000 : k16 30000 = none := rfl
@[simp] theorem k16_30001 : k16 30001 = none := rfl
@[simp] theorem k16_30002 : k16 30002 = none := rfl
@[simp] theorem k16_30003 : k16 30003 = none := rfl
def k17 : Nat → Option (List Nat)
 | 0 => some [0]
 | 1 => some [1]
 | 2 => some []
 | 3 => some [1]
 | 4 => some [1, 3]
 | 5 => some [1, 3]
 | 6 => some [1, 3]
 | 7 => some []
 | 8 => some [1, 3]
 | 9 => some [1, 3, 4]
 | 10 => some [1, 3, 4]
 | 11 => some [1, 3, 4]
 | 12 => some [1, 3, 4, 5]
 | 13 => some []
 | 14 => some []
 | 20000 => some []
 | 20001 => some [1, 3]
 | 20002 => some [1, 3]
 | 20003 => some [1, 3, 4]
 | 9999 => some [2]
 | _ => none
attribute [simp] k17
@[simp] theorem k17_30000 : k17 30000 = none := rfl
@[simp] theorem k17_30001 : k17 30001 = none := rfl
@[simp] theorem k17_30002 : k17 30002 = none := rfl
@[simp] theorem k17_30003 : k17 30003 = none := rfl
@[simp] theorem k17_30004 : k17 30004 = none := rfl
@[simp] theorem k17_30005 : k17 30005 = none := rfl
@[simp] theorem k17_30006 : k17 30006 = none := rfl
@[simp] theorem k17_30007 : k17 30007 = none := rfl
@[simp] theorem k17_30008 : k17 30008 = none := rfl
@[simp] theorem k17_30009 : k17 30009 = none := rfl
@[simp] theorem k17_30010 : k17 30010 = none := rfl
@[simp] theorem k17_30011 : k17 30011 = none := rfl
@[simp] theorem k17_30012 : k17 30012 = none := rfl
@[simp] theorem k17_30013 : k17 30013 = none := rfl
@[simp] theorem k17_30014 : k17 30014 = none := rfl
def k18 : Nat → Option (List Nat)
 | 0 => some [0, 1]
 | 1 => some [2, 3]
 | 9999 => some [4]
 | _ => none
attribute [simp] k18
@[simp] theorem k18_30000 : k18 30000 = none := rfl
@[simp] theorem k18_30001 : k18 30001 = none := rfl
def k19 : Nat → Option (List Nat)
 | 0 => some [0, 1]
 | 1 => some [2, 3]
 | 2 => some []
 | 3 => some [2, 3]
 | 4 => some [2, 3, 5]
 | 5 => some [2, 3, 5]
 | 6 => some [2, 3, 5]
 | 7 => some [2, 3, 5, 6]
 | 8 => some []
 | 9 => some []
 | 20000 => some []
 | 20001 => some [2, 3, 5]
 | 9999 => some [4]
 | _ => none
attribute [simp] k19
@[simp] theorem k19_30000 : k19 30000 = none := rfl
@[simp] theorem k19_30001 : k19 30001 = none := rfl
@[simp] theorem k19_30002 : k19 30002 = none := rfl
@[simp] theorem k19_30003 : k19 30003 = none := rfl
@[simp] theorem k19_30004 : k19 30004 = none := rfl
@[simp] theorem k19_30005 : k19 30005 = none := rfl
@[simp] theorem k19_30006 : k19 30006 = none := rfl
@[simp] theorem k19_30007 : k19 30007 = none := rfl
@[simp] theorem k19_30008 : k19 30008 = none := rfl
@[simp] theorem k19_30009 : k19 30009 = none := rfl
def k20 : Nat → Option (List Nat)
 | 0 => some [0, 1]
 | 1 => some [0, 1]
 | 2 => some [0, 1, 7]
 | 3 => some [0, 1, 7]
 | 4 => some [0, 1, 7, 8]
 | 5 => some [0, 7, 8, 18, 19]
 | 6 => some [0, 7, 8, 18, 19]
 | 7 => some [0, 7, 8, 9, 18, 19]
 | 8 => some [0, 7, 8, 10, 18, 19]
 | 9 => some [0, 7, 8, 10, 11, 12, 18, 19]
 | 10 => some [0, 7, 8, 10, 11, 12, 18, 19]
 | 11 => some [0, 7, 8, 10, 12, 18, 19]
 | 12 => some [0, 7, 8, 12, 18, 19]
 | 13 => some [0, 7, 8, 18, 19]
 | 14 => some [0, 7, 8, 18, 19]
 | 15 => some [7, 8]
 | 16 => some [7, 8]
 | 17 => some [7, 8]
 | 18 => some [7]
 | 19 => some [7, 8]
 | 20000 => some [7, 8]
 | 20001 => some [0, 7, 8, 18, 19]
 | 9999 => some [4, 5, 6]
 | _ => none
attribute [simp] k20
@[simp] theorem k20_30000 : k20 30000 = none := rfl
@[simp] theorem k20_30001 : k20 30001 = none := rfl
@[simp] theorem k20_30002 : k20 30002 = none := rfl
@[simp] theorem k20_30003 : k20 30003 = none := rfl
@[simp] theorem k20_30004 : k20 30004 = none := rfl
@[simp] theorem k20_30005 : k20 30005 = none := rfl
@[simp] theorem k20_30006 : k20 30006 = none := rfl
@[simp] theorem k20_30007 : k20 30007 = none := rfl
@[simp] theorem k20_30008 : k20 30008 = none := rfl
@[simp] theorem k20_30009 : k20 30009 = none := rfl
@[simp] theorem k20_30010 : k20 30010 = none := rfl
@[simp] theorem k20_30011 : k20 30011 = none := rfl
@[simp] theorem k20_30012 : k20 30012 = none := rfl
@[simp] theorem k20_30013 : k20 30013 = none := rfl
@[simp] theorem k20_30014 : k20 30014 = none := rfl
@[simp] theorem k20_30015 : k20 30015 = none := rfl
@[simp] theorem k20_30016 : k20 30016 = none := rfl
@[simp] theorem k20_30017 : k20 30017 = none := rfl
@[simp] theorem k20_30018 : k20 30018 = none := rfl
@[simp] theorem k20_30019 : k20 30019 = none := rfl
def k21 : Nat → Option (List Nat)
 | 0 => some [0, 1]
 | 1 => some [0, 1]
 | 2 => some [1, 7]
 | 3 => some [1, 7, 8]
 | 4 => some [1, 7, 8, 9]
 | 5 => some [1, 7, 8, 9]
 | 6 => some [1, 7, 8, 9]
 | 7 => some [1, 7, 8, 9, 10]
 | 8 => some [1, 7, 8, 9, 10]
 | 9 => some [1, 7, 8, 9, 10]
 | 10 => some [1, 7, 8, 9]
 | 11 => some [7, 8]
 | 12 => some [7, 8]
 | 13 => some [7]
 | 14 => some [7, 8]
 | 20000 => some [7, 8]
 | 20001 => some [1, 7, 8, 9]
 | 9999 => some [4, 5, 6]
 | _ => none
attribute [simp] k21
@[simp] theorem k21_30000 : k21 30000 = none := rfl
@[simp] theorem k21_30001 : k21 30001 = none := rfl
@[simp] theorem k21_30002 : k21 30002 = none := rfl
@[simp] theorem k21_30003 : k21 30003 = none := rfl
@[simp] theorem k21_30004 : k21 30004 = none := rfl
@[simp] theorem k21_30005 : k21 30005 = none := rfl
@[simp] theorem k21_30006 : k21 30006 = none := rfl
@[simp] theorem k21_30007 : k21 30007 = none := rfl
@[simp] theorem k21_30008 : k21 30008 = none := rfl
@[simp] theorem k21_30009 : k21 30009 = none := rfl
@[simp] theorem k21_30010 : k21 30010 = none := rfl
@[simp] theorem k21_30011 : k21 30011 = none := rfl
@[simp] theorem k21_30012 : k21 30012 = none := rfl
@[simp] theorem k21_30013 : k21 30013 = none := rfl
@[simp] theorem k21_30014 : k21 30014 = none := rfl
def k22 : Nat → Option (List Nat)
 | 0 => some [0]
 | 1 => some [0]
 | 2 => some [0, 3]
 | 3 => some [3, 7, 8, 9]
 | 4 => some [3, 7, 8, 9]
 | 5 => some [3, 4, 5, 7, 8, 9]
 | 6 => some [3, 5, 6, 7, 8, 9]
 | 7 => some [3, 6, 7, 8, 9]
 | 8 => some [3, 6, 7, 8, 9]
 | 9 => some [3, 7, 8, 9]
 | 10 => some [3]
 | 20000 => some [3]
 | 20001 => some [3, 7, 8, 9]
 | 9999 => some [2]
 | _ => none
attribute [simp] k22
@[simp] theorem k22_30000 : k22 30000 = none := rfl
@[simp] theorem k22_30001 : k22 30001 = none := rfl
@[simp] theorem k22_30002 : k22 30002 = none := rfl
@[simp] theorem k22_30003 : k22 30003 = none := rfl
@[simp] theorem k22_30004 : k22 30004 = none := rfl
@[simp] theorem k22_30005 : k22 30005 = none := rfl
@[simp] theorem k22_30006 : k22 30006 = none := rfl
@[simp] theorem k22_30007 : k22 30007 = none := rfl
@[simp] theorem k22_30008 : k22 30008 = none := rfl
@[simp] theorem k22_30009 : k22 30009 = none := rfl
@[simp] theorem k22_30010 : k22 30010 = none := rfl
def k23 : Nat → Option (List Nat)
 | 0 => some [0]
 | 1 => some [0]
 | 2 => some [0, 3]
 | 3 => some [0, 3, 4]
 | 4 => some [0, 3, 4]
 | 5 => some [0, 3, 4]
 | 6 => some [0, 3, 4]
 | 7 => some [0, 3, 4]
 | 8 => some [3]
 | 20000 => some [3]
 | 20001 => some [0, 3, 4]
 | 9999 => some [2]
 | _ => none
attribute [simp] k23
@[simp] theorem k23_30000 : k23 30000 = none := rfl
@[simp] theorem k23_30001 : k23 30001 = none := rfl
@[simp] theorem k23_30002 : k23 30002 = none := rfl
@[simp] theorem k23_30003 : k23 30003 = none := rfl
@[simp] theorem k23_30004 : k23 30004 = none := rfl
@[simp] theorem k23_30005 : k23 30005 = none := rfl
@[simp] theorem k23_30006 : k23 30006 = none := rfl
@[simp] theorem k23_30007 : k23 30007 = none := rfl
@[simp] theorem k23_30008 : k23 30008 = none := rfl
def k24 : Nat → Option (List Nat)
 | 0 => some [0, 1]
 | 1 => some [0, 1]
 | 2 => some []
 | 3 => some [0, 1]
 | 4 => some [0, 1, 5]
 | 5 => some [0, 1, 5]
 | 6 => some [0, 1, 5]
 | 7 => some []
 | 8 => some []
 | 20000 => some []
 | 20001 => some [0, 1, 5]
 | 9999 => some [4]
 | _ => none
attribute [simp] k24
@[simp] theorem k24_30000 : k24 30000 = none := rfl
@[simp] theorem k24_30001 : k24 30001 = none := rfl
@[simp] theorem k24_30002 : k24 30002 = none := rfl
@[simp] theorem k24_30003 : k24 30003 = none := rfl
@[simp] theorem k24_30004 : k24 30004 = none := rfl
@[simp] theorem k24_30005 : k24 30005 = none := rfl
@[simp] theorem k24_30006 : k24 30006 = none := rfl
@[simp] theorem k24_30007 : k24 30007 = none := rfl
@[simp] theorem k24_30008 : k24 30008 = none := rfl
def k25 : Nat → Option (List Nat)
 | 0 => some [0, 1]
 | 1 => some [0, 3]
 | 9999 => some [4]
 | _ => none
attribute [simp] k25
@[simp] theorem k25_30000 : k25 30000 = none := rfl
@[simp] theorem k25_30001 : k25 30001 = none := rfl
def k26 : Nat → Option (List Nat)
 | 0 => some [0, 1]
 | 1 => some [0, 1]
 | 2 => some [0, 1, 5]
 | 3 => some [0, 1, 5]
 | 4 => some [0, 1, 5]
 | 5 => some [0, 1, 5, 6]
 | 6 => some [0, 1, 5, 6]
 | 7 => some [0, 1, 5, 6]
 | 8 => some []
 | 9 => some []
 | 20000 => some []
 | 20001 => some [0, 1, 5]
 | 20002 => some [0, 1, 5]
 | 20003 => some [0, 1, 5, 6]
 | 9999 => some [4]
 | _ => none
attribute [simp] k26
@[simp] theorem k26_30000 : k26 30000 = none := rfl
@[simp] theorem k26_30001 : k26 30001 = none := rfl
@[simp] theorem k26_30002 : k26 30002 = none := rfl
@[simp] theorem k26_30003 : k26 30003 = none := rfl
@[simp] theorem k26_30004 : k26 30004 = none := rfl
@[simp] theorem k26_30005 : k26 30005 = none := rfl
@[simp] theorem k26_30006 : k26 30006 = none := rfl
@[simp] theorem k26_30007 : k26 30007 = none := rfl
@[simp] theorem k26_30008 : k26 30008 = none := rfl
@[simp] theorem k26_30009 : k26 30009 = none := rfl
def k27 : Nat → Option (List Nat)
 | 0 => some [0, 1]
 | 1 => some [2, 3]
 | 9999 => some [4]
 | _ => none
attribute [simp] k27
@[simp] theorem k27_30000 : k27 30000 = none := rfl
@[simp] theorem k27_30001 : k27 30001 = none := rfl
def k28 : Nat → Option (List Nat)
 | 0 => some [0, 1]
 | 1 => some [1, 2]
 | 2 => some [1, 2, 5]
 | 3 => some [1, 2, 5]
 | 4 => some [1, 2, 5]
 | 5 => some [1, 2, 5, 6]
 | 6 => some []
 | 7 => some []
 | 20000 => some []
 | 20001 => some [1, 2, 5]
 | 9999 => some [4]
 | _ => none
attribute [simp] k28
@[simp] theorem k28_30000 : k28 30000 = none := rfl
@[simp] theorem k28_30001 : k28 30001 = none := rfl
@[simp] theorem k28_30002 : k28 30002 = none := rfl
@[simp] theorem k28_30003 : k28 30003 = none := rfl
@[simp] theorem k28_30004 : k28 30004 = none := rfl
@[simp] theorem k28_30005 : k28 30005 = none := rfl
@[simp] theorem k28_30006 : k28 30006 = none := rfl
@[simp] theorem k28_30007 : k28 30007 = none := rfl
def k29 : Nat → Option (List Nat)
 | 0 => some [0, 1]
 | 1 => some [0, 1]
 | 2 => some [0, 1, 5]
 | 3 => some [1, 5]
 | 4 => some [5, 10, 11, 12]
 | 5 => some [5, 10, 11, 12]
 | 6 => some [5, 6, 7, 10, 11, 12]
 | 7 => some [5, 7, 10, 11, 12]
 | 8 => some [5, 7, 10, 11, 12]
 | 9 => some [5, 10, 11, 12]
 | 10 => some [5]
 | 11 => some [5]
 | 20000 => some [5]
 | 20001 => some [5, 10, 11, 12]
 | 9999 => some [4]
 | _ => none
attribute [simp] k29
@[simp] theorem k29_30000 : k29 30000 = none := rfl
@[simp] theorem k29_30001 : k29 30001 = none := rfl
@[simp] theorem k29_30002 : k29 30002 = none := rfl
@[simp] theorem k29_30003 : k29 30003 = none := rfl
@[simp] theorem k29_30004 : k29 30004 = none := rfl
@[simp] theorem k29_30005 : k29 30005 = none := rfl
@[simp] theorem k29_30006 : k29 30006 = none := rfl
@[simp] theorem k29_30007 : k29 30007 = none := rfl
@[simp] theorem k29_30008 : k29 30008 = none := rfl
@[simp] theorem k29_30009 : k29 30009 = none := rfl
@[simp] theorem k29_30010 : k29 30010 = none := rfl
@[simp] theorem k29_30011 : k29 30011 = none := rfl
def k32 : Nat → Option (List Nat)
 | 0 => some [0]
 | 1 => some [0]
 | 2 => some [0]
 | 3 => some [0]
 | 4 => some [0, 3]
 | 5 => some [3]
 | 6 => some [0, 3]
 | 9999 => some [2]
 | _ => none
attribute [simp] k32
@[simp] theorem k32_30000 : k32 30000 = none := rfl
@[simp] theorem k32_30001 : k32 30001 = none := rfl
@[simp] theorem k32_30002 : k32 30002 = none := rfl
@[simp] theorem k32_30003 : k32 30003 = none := rfl
@[simp] theorem k32_30004 : k32 30004 = none := rfl
@[simp] theorem k32_30005 : k32 30005 = none := rfl
@[simp] theorem k32_30006 : k32 30006 = none := rfl
def k33 : Nat → Option (List Nat)
 | 0 => some [0, 1]
 | 1 => some [0, 1]
 | 2 => some [0, 4, 5]
 | 3 => some [0, 5]
 | 4 => some [0]
 | 9999 => some []
 | _ => none
attribute [simp] k33
@[simp] theorem k33_30000 : k33 30000 = none := rfl
@[simp] theorem k33_30001 : k33 30001 = none := rfl
@[simp] theorem k33_30002 : k33 30002 = none := rfl
@[simp] theorem k33_30003 : k33 30003 = none := rfl
@[simp] theorem k33_30004 : k33 30004 = none := rfl
def k34 : Nat → Option (List Nat)
 | 0 => some [0, 1, 2]
 | 1 => some [0, 1, 2]
 | 2 => some []
 | 3 => some [0, 1, 2]
 | 4 => some [0, 7, 8, 9]
 | 5 => some [7]
 | 9999 => some [6]
 | _ => none
attribute [simp] k34
@[simp] theorem k34_30000 : k34 30000 = none := rfl
@[simp] theorem k34_30001 : k34 30001 = none := rfl
@[simp] theorem k34_30002 : k34 30002 = none := rfl
@[simp] theorem k34_30003 : k34 30003 = none := rfl
@[simp] theorem k34_30004 : k34 30004 = none := rfl
@[simp] theorem k34_30005 : k34 30005 = none := rfl
def k35 : Nat → Option (List Nat)
 | 0 => some [0, 1, 2]
 | 1 => some [0, 1, 2]
 | 2 => some []
 | 3 => some [0, 1, 2]
 | 4 => some [0, 1, 2, 9]
 | 5 => some [1]
 | 6 => some [0, 1, 2, 9]
 | 7 => some [0, 1, 2, 9, 10]
 | 8 => some [1, 2, 9, 10, 40, 41, 42]
 | 9 => some [1, 2, 9, 10, 40, 41, 42]
 | 10 => some [1, 2, 9, 10, 12, 40, 41, 42]
 | 11 => some [1, 2, 9, 10, 40, 41, 42]
 | 12 => some [1]
 | 13 => some [1, 2, 9, 10, 40, 41, 42]
 | 14 => some [9, 10]
 | 20000 => some [9, 10]
 | 20001 => some [1, 2, 9, 10, 40, 41, 42]
 | 9999 => some [6, 7, 8]
 | _ => none
attribute [simp] k35
@[simp] theorem k35_30000 : k35 30000 = none := rfl
@[simp] theorem k35_30001 : k35 30001 = none := rfl
@[simp] theorem k35_30002 : k35 30002 = none := rfl
@[simp] theorem k35_30003 : k35 30003 = none := rfl
@[simp] theorem k35_30004 : k35 30004 = none := rfl
@[simp] theorem k35_30005 : k35 30005 = none := rfl
@[simp] theorem k35_30006 : k35 30006 = none := rfl
@[simp] theorem k35_30007 : k35 30007 = none := rfl
@[simp] theorem k35_30008 : k35 30008 = none := rfl
@[simp] theorem k35_30009 : k35 30009 = none := rfl
@[simp] theorem k35_30010 : k35 30010 = none := rfl
@[simp] theorem k35_30011 : k35 30011 = none := rfl
@[simp] theorem k35_30012 : k35 30012 = none := rfl
@[simp] theorem k35_30013 : k35 30013 = none := rfl
@[simp] theorem k35_30014 : k35 30014 = none := rfl
def k36 : Nat → Option (List Nat)
 | 0 => some [0, 1]
 | 1 => some [0, 1]
 | 2 => some [0, 1, 5]
 | 3 => some [0, 1, 5]
 | 4 => some [0, 1, 5, 6]
 | 5 => some [0, 1, 5, 6, 7]
 | 6 => some []
 | 7 => some [0, 1, 5, 6, 7]
 | 8 => some [0, 5]
 | 9 => some [5]
 | 10 => some [0, 1, 5, 6, 7]
 | 11 => some [0, 6]
 | 12 => some []
 | 13 => some [0, 1, 5, 7]
 | 14 => some [0, 1, 5]
 | 15 => some []
 | 20000 => some []
 | 20001 => some [0, 1, 5]
 | 20002 => some [0, 1, 5, 7]
 | 9999 => some [4]
 | _ => none
attribute [simp] k36
@[simp] theorem k36_30000 : k36 30000 = none := rfl
@[simp] theorem k36_30001 : k36 30001 = none := rfl
@[simp] theorem k36_30002 : k36 30002 = none := rfl
@[simp] theorem k36_30003 : k36 30003 = none := rfl
@[simp] theorem k36_30004 : k36 30004 = none := rfl
@[simp] theorem k36_30005 : k36 30005 = none := rfl
@[simp] theorem k36_30006 : k36 30006 = none := rfl
@[simp] theorem k36_30007 : k36 30007 = none := rfl
@[simp] theorem k36_30008 : k36 30008 = none := rfl
@[simp] theorem k36_30009 : k36 30009 = none := rfl
@[simp] theorem k36_30010 : k36 30010 = none := rfl
@[simp] theorem k36_30011 : k36 30011 = none := rfl
@[simp] theorem k36_30012 : k36 30012 = none := rfl
@[simp] theorem k36_30013 : k36 30013 = none := rfl
@[simp] theorem k36_30014 : k36 30014 = none := rfl
@[simp] theorem k36_30015 : k36 30015 = none := rfl
def k37 : Nat → Option (List Nat)
 | 0 => some [0]
 | 1 => some [0]
 | 9999 => some []
 | _ => none
attribute [simp] k37
@[simp] theorem k37_30000 : k37 30000 = none := rfl
@[simp] theorem k37_30001 : k37 30001 = none := rfl
def k38 : Nat → Option (List Nat)
 | 0 => some [0, 1]
 | 1 => some [1, 2, 5]
 | 2 => some [2, 5]
 | 3 => some [1, 2, 5]
 | 4 => some [2, 5, 6, 7, 8]
 | 5 => some [2, 5, 6, 8]
 | 6 => some [2, 5, 6]
 | 9999 => some [4, 5]
 | _ => none
attribute [simp] k38
@[simp] theorem k38_30000 : k38 30000 = none := rfl
@[simp] theorem k38_30001 : k38 30001 = none := rfl
@[simp] theorem k38_30002 : k38 30002 = none := rfl
@[simp] theorem k38_30003 : k38 30003 = none := rfl
@[simp] theorem k38_30004 : k38 30004 = none := rfl
@[simp] theorem k38_30005 : k38 30005 = none := rfl
@[simp] theorem k38_30006 : k38 30006 = none := rfl
def k39 : Nat → Option (List Nat)
 | 0 => some [0, 1]
 | 1 => some [1, 2, 4]
 | 2 => some [2, 4]
 | 3 => some [1, 2, 4]
 | 4 => some [2, 4, 5, 6]
 | 5 => some [2, 4, 6]
 | 6 => some [2, 4]
 | 7 => some [2, 4]
 | 9999 => some [4]
 | _ => none
attribute [simp] k39
@[simp] theorem k39_30000 : k39 30000 = none := rfl
@[simp] theorem k39_30001 : k39 30001 = none := rfl
@[simp] theorem k39_30002 : k39 30002 = none := rfl
@[simp] theorem k39_30003 : k39 30003 = none := rfl
@[simp] theorem k39_30004 : k39 30004 = none := rfl
@[simp] theorem k39_30005 : k39 30005 = none := rfl
@[simp] theorem k39_30006 : k39 30006 = none := rfl
@[simp] theorem k39_30007 : k39 30007 = none := rfl
def k40 : Nat → Option (List Nat)
 | 0 => some [0, 1]
 | 1 => some [1, 2, 5]
 | 2 => some [1, 2, 5, 6]
 | 3 => some [1, 2, 5, 6]
 | 4 => some [1, 2, 5, 6, 7, 8]
 | 5 => some [5, 8]
 | 6 => some [1, 2, 5, 6, 7, 8]
 | 7 => some [5, 6, 8]
 | 8 => some [1, 2, 5, 6, 7, 8]
 | 9 => some [2, 5]
 | 10 => some [2, 5]
 | 11 => some [1, 2, 5, 6, 7, 8]
 | 12 => some [1, 2, 5, 6, 8]
 | 13 => some [2, 5]
 | 20000 => some [2, 5]
 | 20001 => some [1, 2, 5, 6]
 | 9999 => some [4, 5]
 | _ => none
attribute [simp] k40
@[simp] theorem k40_30000 : k40 30000 = none := rfl
@[simp] theorem k40_30001 : k40 30001 = none := rfl
@[simp] theorem k40_30002 : k40 30002 = none := rfl
@[simp] theorem k40_30003 : k40 30003 = none := rfl
@[simp] theorem k40_30004 : k40 30004 = none := rfl
@[simp] theorem k40_30005 : k40 30005 = none := rfl
@[simp] theorem k40_30006 : k40 30006 = none := rfl
@[simp] theorem k40_30007 : k40 30007 = none := rfl
@[simp] theorem k40_30008 : k40 30008 = none := rfl
@[simp] theorem k40_30009 : k40 30009 = none := rfl
@[simp] theorem k40_30010 : k40 30010 = none := rfl
@[simp] theorem k40_30011 : k40 30011 = none := rfl
@[simp] theorem k40_30012 : k40 30012 = none := rfl
@[simp] theorem k40_30013 : k40 30013 = none := rfl
def k41 : Nat → Option (List Nat)
 | 0 => some [0]
 | 1 => some [1, 2]
 | 2 => some [1, 2]
 | 3 => some [1, 2]
 | 9999 => some [2]
 | _ => none
attribute [simp] k41
@[simp] theorem k41_30000 : k41 30000 = none := rfl
@[simp] theorem k41_30001 : k41 30001 = none := rfl
@[simp] theorem k41_30002 : k41 30002 = none := rfl
@[simp] theorem k41_30003 : k41 30003 = none := rfl
def k42 : Nat → Option (List Nat)
 | 0 => some [0, 1]
 | 1 => some [0, 1]
 | 9999 => some [3]
 | _ => none
attribute [simp] k42
@[simp] theorem k42_30000 : k42 30000 = none := rfl
@[simp] theorem k42_30001 : k42 30001 = none := rfl
def k43 : Nat → Option (List Nat)
 | 0 => some [0, 1]
 | 1 => some [0, 1]
 | 9999 => some [3]
 | _ => none
attribute [simp] k43
@[simp] theorem k43_30000 : k43 30000 = none := rfl
@[simp] theorem k43_30001 : k43 30001 = none := rfl
def k44 : Nat → Option (List Nat)
 | 0 => some [0, 1]
 | 1 => some [0, 1]
 | 9999 => some [4]
 | _ => none
attribute [simp] k44
@[simp] theorem k44_30000 : k44 30000 = none := rfl
@[simp] theorem k44_30001 : k44 30001 = none := rfl
def k45 : Nat → Option (List Nat)
 | 0 => some [0, 1]
 | 1 => some [0, 1]
 | 9999 => some [4]
 | _ => none
attribute [simp] k45
@[simp] theorem k45_30000 : k45 30000 = none := rfl
@[simp] theorem k45_30001 : k45 30001 = none := rfl
def k46 : Nat → Option (List Nat)
 | 0 => some [0, 1, 2]
 | 1 => some [0, 1, 2]
 | 2 => some []
 | 3 => some [0, 1, 2]
 | 4 => some [1, 2, 15, 16, 17]
 | 5 => some [1, 2, 15, 16, 17]
 | 6 => some [1, 2, 7, 8, 15, 16, 17]
 | 7 => some [1, 2, 8, 9, 15, 16, 17]
 | 8 => some []
 | 9 => some [1, 2, 15, 16, 17]
 | 10 => some []
 | 20000 => some []
 | 20001 => some [1, 2, 15, 16, 17]
 | 9999 => some [6]
 | _ => none
attribute [simp] k46
@[simp] theorem k46_30000 : k46 30000 = none := rfl
@[simp] theorem k46_30001 : k46 30001 = none := rfl
@[simp] theorem k46_30002 : k46 30002 = none := rfl
@[simp] theorem k46_30003 : k46 30003 = none := rfl
@[simp] theorem k46_30004 : k46 30004 = none := rfl
@[simp] theorem k46_30005 : k46 30005 = none := rfl
@[simp] theorem k46_30006 : k46 30006 = none := rfl
@[simp] theorem k46_30007 : k46 30007 = none := rfl
@[simp] theorem k46_30008 : k46 30008 = none := rfl
@[simp] theorem k46_30009 : k46 30009 = none := rfl
@[simp] theorem k46_30010 : k46 30010 = none := rfl
def k47 : Nat → Option (List Nat)
 | 0 => some [0, 1]
 | 1 => some [0, 1]
 | 9999 => some [4]
 | _ => none
attribute [simp] k47
@[simp] theorem k47_30000 : k47 30000 = none := rfl
@[simp] theorem k47_30001 : k47 30001 = none := rfl
def k48 : Nat → Option (List Nat)
 | 0 => some [0, 1]
 | 1 => some [0, 1]
 | 2 => some []
 | 3 => some [0, 1]
 | 4 => some [0, 1, 12, 13]
 | 5 => some [0, 1, 12, 13]
 | 6 => some [0, 1, 5, 12, 13]
 | 7 => some []
 | 8 => some [0, 1, 12, 13]
 | 9 => some []
 | 20000 => some []
 | 20001 => some [0, 1, 12, 13]
 | 9999 => some [4]
 | _ => none
attribute [simp] k48
@[simp] theorem k48_30000 : k48 30000 = none := rfl
@[simp] theorem k48_30001 : k48 30001 = none := rfl
@[simp] theorem k48_30002 : k48 30002 = none := rfl
@[simp] theorem k48_30003 : k48 30003 = none := rfl
@[simp] theorem k48_30004 : k48 30004 = none := rfl
@[simp] theorem k48_30005 : k48 30005 = none := rfl
@[simp] theorem k48_30006 : k48 30006 = none := rfl
@[simp] theorem k48_30007 : k48 30007 = none := rfl
@[simp] theorem k48_30008 : k48 30008 = none := rfl
@[simp] theorem k48_30009 : k48 30009 = none := rfl
def k49 : Nat → Option (List Nat)
 | 0 => some [0, 1]
 | 1 => some [0, 1]
 | 2 => some []
 | 3 => some [0, 1]
 | 4 => some [0, 1, 5]
 | 5 => some [0, 1, 5]
 | 6 => some [0, 1, 5]
 | 7 => some []
 | 8 => some []
 | 20000 => some []
 | 20001 => some [0, 1, 5]
 | 9999 => some [4]
 | _ => none
attribute [simp] k49
@[simp] theorem k49_30000 : k49 30000 = none := rfl
@[simp] theorem k49_30001 : k49 30001 = none := rfl
@[simp] theorem k49_30002 : k49 30002 = none := rfl
@[simp] theorem k49_30003 : k49 30003 = none := rfl
@[simp] theorem k49_30004 : k49 30004 = none := rfl
@[simp] theorem k49_30005 : k49 30005 = none := rfl
@[simp] theorem k49_30006 : k49 30006 = none := rfl
@[simp] theorem k49_30007 : k49 30007 = none := rfl
@[simp] theorem k49_30008 : k49 30008 = none := rfl
def k51 : Nat → Option (List Nat)
 | 0 => some [0, 1, 2]
 | 1 => some [0, 1, 2]
 | 2 => some []
 | 3 => some [0, 1, 2]
 | 4 => some [1]
 | 5 => some [1, 2]
 | 9999 => some [6, 7]
 | _ => none
attribute [simp] k51
@[simp] theorem k51_30000 : k51 30000 = none := rfl
@[simp] theorem k51_30001 : k51 30001 = none := rfl
@[simp] theorem k51_30002 : k51 30002 = none := rfl
@[simp] theorem k51_30003 : k51 30003 = none := rfl
@[simp] theorem k51_30004 : k51 30004 = none := rfl
@[simp] theorem k51_30005 : k51 30005 = none := rfl
def k52 : Nat → Option (List Nat)
 | 0 => some [0, 1]
 | 1 => some [0, 1]
 | 2 => some [0, 1, 4]
 | 9999 => some [3]
 | _ => none
attribute [simp] k52
@[simp] theorem k52_30000 : k52 30000 = none := rfl
@[simp] theorem k52_30001 : k52 30001 = none := rfl
@[simp] theorem k52_30002 : k52 30002 = none := rfl
def k53 : Nat → Option (List Nat)
 | 0 => some [0, 1]
 | 1 => some [0, 1]
 | 9999 => some [3]
 | _ => none
attribute [simp] k53
@[simp] theorem k53_30000 : k53 30000 = none := rfl
@[simp] theorem k53_30001 : k53 30001 = none := rfl
def k54 : Nat → Option (List Nat)
 | 0 => some [0, 1]
 | 1 => some [0, 1]
 | 2 => some [0, 1]
 | 3 => some [1]
 | 9999 => some [4, 5]
 | _ => none
attribute [simp] k54
@[simp] theorem k54_30000 : k54 30000 = none := rfl
@[simp] theorem k54_30001 : k54 30001 = none := rfl
@[simp] theorem k54_30002 : k54 30002 = none := rfl
@[simp] theorem k54_30003 : k54 30003 = none := rfl
def k57 : Nat → Option (List Nat)
 | 0 => some [0, 1]
 | 1 => some [0, 1]
 | 9999 => some [4]
 | _ => none
attribute [simp] k57
@[simp] theorem k57_30000 : k57 30000 = none := rfl
@[simp] theorem k57_30001 : k57 30001 = none := rfl
def k58 : Nat → Option (List Nat)
 | 0 => some [0, 1, 2]
 | 1 => some [0, 1, 5]
 | 2 => some [0, 1, 7]
 | 3 => some [0]
 | 4 => some [1, 7]
 | 9999 => some [6]
 | _ => none
attribute [simp] k58
@[simp] theorem k58_30000 : k58 30000 = none := rfl
@[simp] theorem k58_30001 : k58 30001 = none := rfl
@[simp] theorem k58_30002 : k58 30002 = none := rfl
@[simp] theorem k58_30003 : k58 30003 = none := rfl
@[simp] theorem k58_30004 : k58 30004 = none := rfl
def k59 : Nat → Option (List Nat)
 | 0 => some [0]
 | 1 => some [0]
 | 9999 => some [2]
 | _ => none
attribute [simp] k59
@[simp] theorem k59_30000 : k59 30000 = none := rfl
@[simp] theorem k59_30001 : k59 30001 = none := rfl
def k60 : Nat → Option (List Nat)
 | 0 => some [0, 1, 2]
 | 1 => some [0, 1, 2]
 | 2 => some []
 | 3 => some [0, 1, 2]
 | 4 => some [0, 1, 2, 9, 10]
 | 5 => some [1, 10, 11, 12, 13]
 | 6 => some [11, 12, 13]
 | 7 => some [1, 11, 12, 13]
 | 8 => some [1]
 | 9 => some [1, 11, 12, 13]
 | 10 => some [1, 13]
 | 11 => some [11, 12]
 | 20000 => some [11, 12]
 | 9999 => some [6, 7, 8]
 | _ => none
attribute [simp] k60
@[simp] theorem k60_30000 : k60 30000 = none := rfl
@[simp] theorem k60_30001 : k60 30001 = none := rfl
@[simp] theorem k60_30002 : k60 30002 = none := rfl
@[simp] theorem k60_30003 : k60 30003 = none := rfl
@[simp] theorem k60_30004 : k60 30004 = none := rfl
@[simp] theorem k60_30005 : k60 30005 = none := rfl
@[simp] theorem k60_30006 : k60 30006 = none := rfl
@[simp] theorem k60_30007 : k60 30007 = none := rfl
@[simp] theorem k60_30008 : k60 30008 = none := rfl
@[simp] theorem k60_30009 : k60 30009 = none := rfl
@[simp] theorem k60_30010 : k60 30010 = none := rfl
@[simp] theorem k60_30011 : k60 30011 = none := rfl
def k61 : Nat → Option (List Nat)
 | 0 => some [0, 1, 2]
 | 1 => some [0, 1, 2]
 | 2 => some []
 | 3 => some [0, 1, 2]
 | 4 => some [0, 1, 2, 9]
 | 5 => some [0, 1, 2, 9, 10]
 | 6 => some [0, 1, 2, 9, 10, 11]
 | 7 => some [0, 1, 2, 9, 10, 11]
 | 8 => some [0, 1, 2, 9, 10, 11]
 | 9 => some [0, 1, 2, 9]
 | 10 => some [0, 1, 2, 9, 11]
 | 11 => some [0, 1, 2, 9, 10, 11]
 | 12 => some [0, 1, 9, 10, 11]
 | 13 => some [1]
 | 14 => some [1, 9, 10, 11]
 | 15 => some [1]
 | 16 => some [9, 10]
 | 20000 => some [0, 1, 9, 10, 11]
 | 20001 => some [0, 1, 2, 9, 10, 11]
 | 9999 => some [6, 7, 8]
 | _ => none
attribute [simp] k61
@[simp] theorem k61_30000 : k61 30000 = none := rfl
@[simp] theorem k61_30001 : k61 30001 = none := rfl
@[simp] theorem k61_30002 : k61 30002 = none := rfl
@[simp] theorem k61_30003 : k61 30003 = none := rfl
@[simp] theorem k61_30004 : k61 30004 = none := rfl
@[simp] theorem k61_30005 : k61 30005 = none := rfl
@[simp] theorem k61_30006 : k61 30006 = none := rfl
@[simp] theorem k61_30007 : k61 30007 = none := rfl
@[simp] theorem k61_30008 : k61 30008 = none := rfl
@[simp] theorem k61_30009 : k61 30009 = none := rfl
@[simp] theorem k61_30010 : k61 30010 = none := rfl
@[simp] theorem k61_30011 : k61 30011 = none := rfl
@[simp] theorem k61_30012 : k61 30012 = none := rfl
@[simp] theorem k61_30013 : k61 30013 = none := rfl
@[simp] theorem k61_30014 : k61 30014 = none := rfl
@[simp] theorem k61_30015 : k61 30015 = none := rfl
@[simp] theorem k61_30016 : k61 30016 = none := rfl
def k62 : Nat → Option (List Nat)
 | 0 => some [0, 1, 2]
 | 1 => some [0, 1, 2]
 | 2 => some []
 | 3 => some [0, 1, 2]
 | 4 => some [1]
 | 5 => some [0, 1, 2]
 | 6 => some [0, 1, 2, 8]
 | 7 => some [0, 1, 2, 8]
 | 8 => some [0, 1, 2, 8]
 | 9 => some [1]
 | 10 => some [1, 2]
 | 20000 => some [1, 2]
 | 20001 => some [0, 1, 2, 8]
 | 9999 => some [6, 7]
 | _ => none
attribute [simp] k62
@[simp] theorem k62_30000 : k62 30000 = none := rfl
@[simp] theorem k62_30001 : k62 30001 = none := rfl
@[simp] theorem k62_30002 : k62 30002 = none := rfl
@[simp] theorem k62_30003 : k62 30003 = none := rfl
@[simp] theorem k62_30004 : k62 30004 = none := rfl
@[simp] theorem k62_30005 : k62 30005 = none := rfl
@[simp] theorem k62_30006 : k62 30006 = none := rfl
@[simp] theorem k62_30007 : k62 30007 = none := rfl
@[simp] theorem k62_30008 : k62 30008 = none := rfl
@[simp] theorem k62_30009 : k62 30009 = none := rfl
@[simp] theorem k62_30010 : k62 30010 = none := rfl
def k63 : Nat → Option (List Nat)
 | 0 => some [0, 1]
 | 1 => some [1, 2, 5]
 | 2 => some [2, 5]
 | 3 => some [1, 2, 5]
 | 4 => some [2, 5, 6, 7, 8]
 | 5 => some [2, 5, 6, 8]
 | 6 => some [2, 5, 6]
 | 9999 => some [4, 5]
 | _ => none
attribute [simp] k63
@[simp] theorem k63_30000 : k63 30000 = none := rfl
@[simp] theorem k63_30001 : k63 30001 = none := rfl
@[simp] theorem k63_30002 : k63 30002 = none := rfl
@[simp] theorem k63_30003 : k63 30003 = none := rfl
@[simp] theorem k63_30004 : k63 30004 = none := rfl
@[simp] theorem k63_30005 : k63 30005 = none := rfl
@[simp] theorem k63_30006 : k63 30006 = none := rfl
def k64 : Nat → Option (List Nat)
 | 0 => some [0, 1]
 | 1 => some [0, 1]
 | 2 => some [0, 1, 7, 8]
 | 3 => some [0, 1, 7, 8]
 | 4 => some [0, 1, 5, 7, 8]
 | 5 => some [5]
 | 6 => some [0, 1, 7, 8]
 | 7 => some []
 | 20000 => some []
 | 20001 => some [0, 1, 7, 8]
 | 9999 => some [4]
 | _ => none
attribute [simp] k64
@[simp] theorem k64_30000 : k64 30000 = none := rfl
@[simp] theorem k64_30001 : k64 30001 = none := rfl
@[simp] theorem k64_30002 : k64 30002 = none := rfl
@[simp] theorem k64_30003 : k64 30003 = none := rfl
@[simp] theorem k64_30004 : k64 30004 = none := rfl
@[simp] theorem k64_30005 : k64 30005 = none := rfl
@[simp] theorem k64_30006 : k64 30006 = none := rfl
@[simp] theorem k64_30007 : k64 30007 = none := rfl
def k65 : Nat → Option (List Nat)
 | 0 => some [0, 1]
 | 1 => some [0, 1]
 | 2 => some [0, 1, 7, 8]
 | 3 => some [0, 1, 7, 8]
 | 4 => some [0, 1, 5, 7, 8]
 | 5 => some [5]
 | 6 => some [0, 1, 7, 8]
 | 7 => some []
 | 20000 => some []
 | 20001 => some [0, 1, 7, 8]
 | 9999 => some [4]
 | _ => none
attribute [simp] k65
@[simp] theorem k65_30000 : k65 30000 = none := rfl
@[simp] theorem k65_30001 : k65 30001 = none := rfl
@[simp] theorem k65_30002 : k65 30002 = none := rfl
@[simp] theorem k65_30003 : k65 30003 = none := rfl
@[simp] theorem k65_30004 : k65 30004 = none := rfl
@[simp] theorem k65_30005 : k65 30005 = none := rfl
@[simp] theorem k65_30006 : k65 30006 = none := rfl
@[simp] theorem k65_30007 : k65 30007 = none := rfl
def k67 : Nat → Option (List Nat)
 | 0 => some [0, 1]
 | 1 => some [0, 1]
 | 9999 => some [4]
 | _ => none
attribute [simp] k67
@[simp] theorem k67_30000 : k67 30000 = none := rfl
@[simp] theorem k67_30001 : k67 30001 = none := rfl
def k70 : Nat → Option (List Nat)
 | 0 => some [0, 1]
 | 1 => some [0, 1]
 | 9999 => some [4]
 | _ => none
attribute [simp] k70
@[simp] theorem k70_30000 : k70 30000 = none := rfl
@[simp] theorem k70_30001 : k70 30001 = none := rfl
def k71 : Nat → Option (List Nat)
 | 0 => some [0, 1]
 | 1 => some [0, 1]
 | 9999 => some [3]
 | _ => none
attribute [simp] k71
@[simp] theorem k71_30000 : k71 30000 = none := rfl
@[simp] theorem k71_30001 : k71 30001 = none := rfl
def k72 : Nat → Option (List Nat)
 | 0 => some [0]
 | 1 => some [0]
 | 9999 => some [2]
 | _ => none
attribute [simp] k72
@[simp] theorem k72_30000 : k72 30000 = none := rfl
@[simp] theorem k72_30001 : k72 30001 = none := rfl
def k73 : Nat → Option (List Nat)
 | 0 => some [0, 1, 2]
 | 1 => some [0, 1, 2]
 | 2 => some []
 | 3 => some [0, 1, 2]
 | 4 => some [0, 1, 2, 9, 10]
 | 5 => some [1, 10, 11, 12, 13]
 | 6 => some [11, 12, 13]
 | 7 => some [1, 11, 12, 13]
 | 8 => some [1, 13]
 | 9 => some [1, 11, 12]
 | 10 => some [1]
 | 11 => some [11, 12]
 | 9999 => some [6, 7, 8]
 | _ => none
attribute [simp] k73
@[simp] theorem k73_30000 : k73 30000 = none := rfl
@[simp] theorem k73_30001 : k73 30001 = none := rfl
@[simp] theorem k73_30002 : k73 30002 = none := rfl
@[simp] theorem k73_30003 : k73 30003 = none := rfl
@[simp] theorem k73_30004 : k73 30004 = none := rfl
@[simp] theorem k73_30005 : k73 30005 = none := rfl
@[simp] theorem k73_30006 : k73 30006 = none := rfl
@[simp] theorem k73_30007 : k73 30007 = none := rfl
@[simp] theorem k73_30008 : k73 30008 = none := rfl
@[simp] theorem k73_30009 : k73 30009 = none := rfl
@[simp] theorem k73_30010 : k73 30010 = none := rfl
@[simp] theorem k73_30011 : k73 30011 = none := rfl
def k75 : Nat → Option (List Nat)
 | 0 => some [0, 1]
 | 1 => some [0, 1]
 | 9999 => some [4]
 | _ => none
attribute [simp] k75
@[simp] theorem k75_30000 : k75 30000 = none := rfl
@[simp] theorem k75_30001 : k75 30001 = none := rfl
def k78 : Nat → Option (List Nat)
 | 0 => some [0, 1, 2]
 | 1 => some [0, 1, 2]
 | 2 => some [0, 1, 2, 7]
 | 3 => some [0, 1, 2, 7]
 | 4 => some [0, 1, 2, 7, 8, 9]
 | 5 => some [7]
 | 6 => some [0, 1, 2, 7, 9]
 | 7 => some []
 | 20000 => some []
 | 20001 => some [0, 1, 2, 7]
 | 9999 => some [6]
 | _ => none
attribute [simp] k78
@[simp] theorem k78_30000 : k78 30000 = none := rfl
@[simp] theorem k78_30001 : k78 30001 = none := rfl
@[simp] theorem k78_30002 : k78 30002 = none := rfl
@[simp] theorem k78_30003 : k78 30003 = none := rfl
@[simp] theorem k78_30004 : k78 30004 = none := rfl
@[simp] theorem k78_30005 : k78 30005 = none := rfl
@[simp] theorem k78_30006 : k78 30006 = none := rfl
@[simp] theorem k78_30007 : k78 30007 = none := rfl
def k83 : Nat → Option (List Nat)
 | 0 => some [0]
 | 1 => some [0]
 | 2 => some [0, 6, 7, 8]
 | 3 => some [0, 6, 8]
 | 4 => some [0, 5]
 | 5 => some [5]
 | 6 => some [0, 6, 7, 8]
 | 7 => some [0]
 | 20000 => some [0]
 | 20001 => some [0, 6, 7, 8]
 | 9999 => some [2, 3]
 | _ => none
attribute [simp] k83
@[simp] theorem k83_30000 : k83 30000 = none := rfl
@[simp] theorem k83_30001 : k83 30001 = none := rfl
@[simp] theorem k83_30002 : k83 30002 = none := rfl
@[simp] theorem k83_30003 : k83 30003 = none := rfl
@[simp] theorem k83_30004 : k83 30004 = none := rfl
@[simp] theorem k83_30005 : k83 30005 = none := rfl
@[simp] theorem k83_30006 : k83 30006 = none := rfl
@[simp] theorem k83_30007 : k83 30007 = none := rfl
def k89 : Nat → Option (List Nat)
 | 0 => some [0]
 | 1 => some [0]
 | 2 => some [0, 4]
 | 3 => some []
 | 4 => some [0, 4]
 | 5 => some [0, 4, 5]
 | 6 => some [0, 4, 5, 6]
 | 7 => some [0, 6]
 | 8 => some [0, 7]
 | 9 => some [0, 4, 5, 6]
 | 10 => some [0, 4, 5, 6, 8]
 | 11 => some [0, 4, 5, 8, 9]
 | 12 => some []
 | 13 => some [0, 5, 8, 9]
 | 14 => some [0, 5, 8, 9, 10]
 | 15 => some []
 | 16 => some [0, 5, 8, 10]
 | 17 => some [5, 10]
 | 18 => some [0, 5, 8, 10]
 | 19 => some [0, 5, 8, 10, 11]
 | 20 => some []
 | 21 => some [0, 5, 8, 10, 11]
 | 22 => some [5, 10, 11]
 | 23 => some [0, 5, 10, 11]
 | 24 => some [5, 10, 11, 12]
 | 25 => some []
 | 26 => some [5, 10, 11, 12]
 | 9999 => some [2, 3]
 | _ => none
attribute [simp] k89
@[simp] theorem k89_30000 : k89 30000 = none := rfl
@[simp] theorem k89_30001 : k89 30001 = none := rfl
@[simp] theorem k89_30002 : k89 30002 = none := rfl
@[simp] theorem k89_30003 : k89 30003 = none := rfl
@[simp] theorem k89_30004 : k89 30004 = none := rfl
@[simp] theorem k89_30005 : k89 30005 = none := rfl
@[simp] theorem k89_30006 : k89 30006 = none := rfl
@[simp] theorem k89_30007 : k89 30007 = none := rfl
@[simp] theorem k89_30008 : k89 30008 = none := rfl
@[simp] theorem k89_30009 : k89 30009 = none := rfl
@[simp] theorem k89_30010 : k89 30010 = none := rfl
@[simp] theorem k89_30011 : k89 30011 = none := rfl
@[simp] theorem k89_30012 : k89 30012 = none := rfl
@[simp] theorem k89_30013 : k89 30013 = none := rfl
@[simp] theorem k89_30014 : k89 30014 = none := rfl
@[simp] theorem k89_30015 : k89 30015 = none := rfl
@[simp] theorem k89_30016 : k89 30016 = none := rfl
@[simp] theorem k89_30017 : k89 30017 = none := rfl
@[simp] theorem k89_30018 : k89 30018 = none := rfl
@[simp] theorem k89_30019 : k89 30019 = none := rfl
@[simp] theorem k89_30020 : k89 30020 = none := rfl
@[simp] theorem k89_30021 : k89 30021 = none := rfl
@[simp] theorem k89_30022 : k89 30022 = none := rfl
@[simp] theorem k89_30023 : k89 30023 = none := rfl
@[simp] theorem k89_30024 : k89 30024 = none := rfl
@[simp] theorem k89_30025 : k89 30025 = none := rfl
@[simp] theorem k89_30026 : k89 30026 = none := rfl
def kt : Nat → Option (Nat → Option (List Nat))
 | 3 => some k3
 | 4 => some k4
 | 5 => some k5
 | 6 => some k6
 | 7 => some k7
 | 8 => some k8
 | 9 => some k9
 | 10 => some k10
 | 11 => some k11
 | 12 => some k12
 | 13 => some k13
 | 14 => some k14
 | 15 => some k15
 | 16 => some k16
 | 17 => some k17
 | 18 => some k18
 | 19 => some k19
 | 20 => some k20
 | 21 => some k21
 | 22 => some k22
 | 23 => some k23
 | 24 => some k24
 | 25 => some k25
 | 26 => some k26
 | 27 => some k27
 | 28 => some k28
 | 29 => some k29
 | 32 => some k32
 | 33 => some k33
 | 34 => some k34
 | 35 => some k35
 | 36 => some k36
 | 37 => some k37
 | 38 => some k38
 | 39 => some k39
 | 40 => some k40
 | 41 => some k41
 | 42 => some k42
 | 43 => some k43
 | 44 => some k44
 | 45 => some k45
 | 46 => some k46
 | 47 => some k47
 | 48 => some k48
 | 49 => some k49
 | 51 => some k51
 | 52 => some k52
 | 53 => some k53
 | 54 => some k54
 | 57 => some k57
 | 58 => some k58
 | 59 => some k59
 | 60 => some k60
 | 61 => some k61
 | 62 => some k62
 | 63 => some k63
 | 64 => some k64
 | 65 => some k65
 | 67 => some k67
 | 70 => some k70
 | 71 => some k71
 | 72 => some k72
 | 73 => some k73
 | 75 => some k75
 | 78 => some k78
 | 83 => some k83
 | 89 => some k89
 | _ => none
noncomputable abbrev ev := evCall Tryd.prog tyTab kt
theorem fn3 : Tryd.prog.funcs[3]? = some Tryd.f3 := by kernel_rfl
theorem fn4 : Tryd.prog.funcs[4]? = some Tryd.f4 := by kernel_rfl
theorem fn5 : Tryd.prog.funcs[5]? = some Tryd.f5 := by kernel_rfl
theorem fn6 : Tryd.prog.funcs[6]? = some Tryd.f6 := by kernel_rfl
theorem fn7 : Tryd.prog.funcs[7]? = some Tryd.f7 := by kernel_rfl
theorem fn8 : Tryd.prog.funcs[8]? = some Tryd.f8 := by kernel_rfl
theorem fn9 : Tryd.prog.funcs[9]? = some Tryd.f9 := by kernel_rfl
theorem fn10 : Tryd.prog.funcs[10]? = some Tryd.f10 := by kernel_rfl
theorem fn11 : Tryd.prog.funcs[11]? = some Tryd.f11 := by kernel_rfl
theorem fn12 : Tryd.prog.funcs[12]? = some Tryd.f12 := by kernel_rfl
theorem fn13 : Tryd.prog.funcs[13]? = some Tryd.f13 := by kernel_rfl
theorem fn14 : Tryd.prog.funcs[14]? = some Tryd.f14 := by kernel_rfl
theorem fn15 : Tryd.prog.funcs[15]? = some Tryd.f15 := by kernel_rfl
theorem fn16 : Tryd.prog.funcs[16]? = some Tryd.f16 := by kernel_rfl
theorem fn17 : Tryd.prog.funcs[17]? = some Tryd.f17 := by kernel_rfl
theorem fn18 : Tryd.prog.funcs[18]? = some Tryd.f18 := by kernel_rfl
theorem fn19 : Tryd.prog.funcs[19]? = some Tryd.f19 := by kernel_rfl
theorem fn20 : Tryd.prog.funcs[20]? = some Tryd.f20 := by kernel_rfl
theorem fn21 : Tryd.prog.funcs[21]? = some Tryd.f21 := by kernel_rfl
theorem fn22 : Tryd.prog.funcs[22]? = some Tryd.f22 := by kernel_rfl
theorem fn23 : Tryd.prog.funcs[23]? = some Tryd.f23 := by kernel_rfl
theorem fn24 : Tryd.prog.funcs[24]? = some Tryd.f24 := by kernel_rfl
theorem fn25 : Tryd.prog.funcs[25]? = some Tryd.f25 := by kernel_rfl
theorem fn26 : Tryd.prog.funcs[26]? = some Tryd.f26 := by kernel_rfl
theorem fn27 : Tryd.prog.funcs[27]? = some Tryd.f27 := by kernel_rfl
theorem fn28 : Tryd.prog.funcs[28]? = some Tryd.f28 := by kernel_rfl
theorem fn29 : Tryd.prog.funcs[29]? = some Tryd.f29 := by kernel_rfl
theorem fn32 : Tryd.prog.funcs[32]? = some Tryd.f32 := by kernel_rfl
theorem fn33 : Tryd.prog.funcs[33]? = some Tryd.f33 := by kernel_rfl
theorem fn34 : Tryd.prog.funcs[34]? = some Tryd.f34 := by kernel_rfl
theorem fn35 : Tryd.prog.funcs[35]? = some Tryd.f35 := by kernel_rfl
theorem fn36 : Tryd.prog.funcs[36]? = some Tryd.f36 := by kernel_rfl
theorem fn37 : Tryd.prog.funcs[37]? = some Tryd.f37 := by kernel_rfl
theorem fn38 : Tryd.prog.funcs[38]? = some Tryd.f38 := by kernel_rfl
theorem fn39 : Tryd.prog.funcs[39]? = some Tryd.f39 := by kernel_rfl
theorem fn40 : Tryd.prog.funcs[40]? = some Tryd.f40 := by kernel_rfl
theorem fn41 : Tryd.prog.funcs[41]? = some Tryd.f41 := by kernel_rfl
theorem fn42 : Tryd.prog.funcs[42]? = some Tryd.f42 := by kernel_rfl
theorem fn43 : Tryd.prog.funcs[43]? = some Tryd.f43 := by kernel_rfl
theorem fn44 : Tryd.prog.funcs[44]? = some Tryd.f44 := by kernel_rfl
theorem fn45 : Tryd.prog.funcs[45]? = some Tryd.f45 := by kernel_rfl
theorem fn46 : Tryd.prog.funcs[46]? = some Tryd.f46 := by kernel_rfl
theorem fn47 : Tryd.prog.funcs[47]? = some Tryd.f47 := by kernel_rfl
theorem fn48 : Tryd.prog.funcs[48]? = some Tryd.f48 := by kernel_rfl
theorem fn49 : Tryd.prog.funcs[49]? = some Tryd.f49 := by kernel_rfl
theorem fn51 : Tryd.prog.funcs[51]? = some Tryd.f51 := by kernel_rfl
theorem fn52 : Tryd.prog.funcs[52]? = some Tryd.f52 := by kernel_rfl
theorem fn53 : Tryd.prog.funcs[53]? = some Tryd.f53 := by kernel_rfl
theorem fn54 : Tryd.prog.funcs[54]? = some Tryd.f54 := by kernel_rfl
theorem fn57 : Tryd.prog.funcs[57]? = some Tryd.f57 := by kernel_rfl
theorem fn58 : Tryd.prog.funcs[58]? = some Tryd.f58 := by kernel_rfl
theorem fn59 : Tryd.prog.funcs[59]? = some Tryd.f59 := by kernel_rfl
theorem fn60 : Tryd.prog.funcs[60]? = some Tryd.f60 := by kernel_rfl
theorem fn61 : Tryd.prog.funcs[61]? = some Tryd.f61 := by kernel_rfl
theorem fn62 : Tryd.prog.funcs[62]? = some Tryd.f62 := by kernel_rfl
theorem fn63 : Tryd.prog.funcs[63]? = some Tryd.f63 := by kernel_rfl
theorem fn64 : Tryd.prog.funcs[64]? = some Tryd.f64 := by kernel_rfl
theorem fn65 : Tryd.prog.funcs[65]? = some Tryd.f65 := by kernel_rfl
theorem fn67 : Tryd.prog.funcs[67]? = some Tryd.f67 := by kernel_rfl
theorem fn70 : Tryd.prog.funcs[70]? = some Tryd.f70 := by kernel_rfl
theorem fn71 : Tryd.prog.funcs[71]? = some Tryd.f71 := by kernel_rfl
theorem fn72 : Tryd.prog.funcs[72]? = some Tryd.f72 := by kernel_rfl
theorem fn73 : Tryd.prog.funcs[73]? = some Tryd.f73 := by kernel_rfl
theorem fn75 : Tryd.prog.funcs[75]? = some Tryd.f75 := by kernel_rfl
theorem fn78 : Tryd.prog.funcs[78]? = some Tryd.f78 := by kernel_rfl
theorem fn83 : Tryd.prog.funcs[83]? = some Tryd.f83 := by kernel_rfl
theorem fn89 : Tryd.prog.funcs[89]? = some Tryd.f89 := by kernel_rfl
def bodyOk (kp : Nat → Option (List Nat)) (f : Func) : Bool := f.body.all (okCode (goodK kp))
theorem ok3 : bodyOk k3 Tryd.f3 = true := by kernel_rfl
theorem ok4 : bodyOk k4 Tryd.f4 = true := by kernel_rfl
theorem ok5 : bodyOk k5 Tryd.f5 = true := by kernel_rfl
theorem ok6 : bodyOk k6 Tryd.f6 = true := by kernel_rfl
theorem ok7 : bodyOk k7 Tryd.f7 = true := by kernel_rfl
theorem ok8 : bodyOk k8 Tryd.f8 = true := by kernel_rfl
theorem ok9 : bodyOk k9 Tryd.f9 = true := by kernel_rfl
theorem ok10 : bodyOk k10 Tryd.f10 = true := by kernel_rfl
theorem ok11 : bodyOk k11 Tryd.f11 = true := by kernel_rfl
theorem ok12 : bodyOk k12 Tryd.f12 = true := by kernel_rfl
theorem ok13 : bodyOk k13 Tryd.f13 = true := by kernel_rfl
theorem ok14 : bodyOk k14 Tryd.f14 = true := by kernel_rfl
theorem ok15 : bodyOk k15 Tryd.f15 = true := by kernel_rfl
theorem ok16 : bodyOk k16 Tryd.f16 = true := by kernel_rfl
theorem ok17 : bodyOk k17 Tryd.f17 = true := by kernel_rfl
theorem ok18 : bodyOk k18 Tryd.f18 = true := by kernel_rfl
theorem ok19 : bodyOk k19 Tryd.f19 = true := by kernel_rfl
theorem ok20 : bodyOk k20 Tryd.f20 = true := by kernel_rfl
theorem ok21 : bodyOk k21 Tryd.f21 = true := by kernel_rfl
theorem ok22 : bodyOk k22 Tryd.f22 = true := by kernel_rfl
theorem ok23 : bodyOk k23 Tryd.f23 = true := by kernel_rfl
theorem ok24 : bodyOk k24 Tryd.f24 = true := by kernel_rfl
theorem ok25 : bodyOk k25 Tryd.f25 = true := by kernel_rfl
theorem ok26 : bodyOk k26 Tryd.f26 = true := by kernel_rfl
theorem ok27 : bodyOk k27 Tryd.f27 = true := by kernel_rfl
theorem ok28 : bodyOk k28 Tryd.f28 = true := by kernel_rfl
theorem ok29 : bodyOk k29 Tryd.f29 = true := by kernel_rfl
theorem ok32 : bodyOk k32 Tryd.f32 = true := by kernel_rfl
theorem ok33 : bodyOk k33 Tryd.f33 = true := by kernel_rfl
theorem ok34 : bodyOk k34 Tryd.f34 = true := by kernel_rfl
theorem ok35 : bodyOk k35 Tryd.f35 = true := by kernel_rfl
theorem ok36 : bodyOk k36 Tryd.f36 = true := by kernel_rfl
theorem ok37 : bodyOk k37 Tryd.f37 = true := by kernel_rfl
theorem ok38 : bodyOk k38 Tryd.f38 = true := by kernel_rfl
theorem ok39 : bodyOk k39 Tryd.f39 = true := by kernel_rfl
theorem ok40 : bodyOk k40 Tryd.f40 = true := by kernel_rfl
theorem ok41 : bodyOk k41 Tryd.f41 = true := by kernel_rfl
theorem ok42 : bodyOk k42 Tryd.f42 = true := by kernel_rfl
theorem ok43 : bodyOk k43 Tryd.f43 = true := by kernel_rfl
theorem ok44 : bodyOk k44 Tryd.f44 = true := by kernel_rfl
theorem ok45 : bodyOk k45 Tryd.f45 = true := by kernel_rfl
theorem ok46 : bodyOk k46 Tryd.f46 = true := by kernel_rfl
theorem ok47 : bodyOk k47 Tryd.f47 = true := by kernel_rfl
theorem ok48 : bodyOk k48 Tryd.f48 = true := by kernel_rfl
theorem ok49 : bodyOk k49 Tryd.f49 = true := by kernel_rfl
theorem ok51 : bodyOk k51 Tryd.f51 = true := by kernel_rfl
theorem ok52 : bodyOk k52 Tryd.f52 = true := by kernel_rfl
theorem ok53 : bodyOk k53 Tryd.f53 = true := by kernel_rfl
theorem ok54 : bodyOk k54 Tryd.f54 = true := by kernel_rfl
theorem ok57 : bodyOk k57 Tryd.f57 = true := by kernel_rfl
theorem ok58 : bodyOk k58 Tryd.f58 = true := by kernel_rfl
theorem ok59 : bodyOk k59 Tryd.f59 = true := by kernel_rfl
theorem ok60 : bodyOk k60 Tryd.f60 = true := by kernel_rfl
theorem ok61 : bodyOk k61 Tryd.f61 = true := by kernel_rfl
theorem ok62 : bodyOk k62 Tryd.f62 = true := by kernel_rfl
theorem ok63 : bodyOk k63 Tryd.f63 = true := by kernel_rfl
theorem ok64 : bodyOk k64 Tryd.f64 = true := by kernel_rfl
theorem ok65 : bodyOk k65 Tryd.f65 = true := by kernel_rfl
theorem ok67 : bodyOk k67 Tryd.f67 = true := by kernel_rfl
theorem ok70 : bodyOk k70 Tryd.f70 = true := by kernel_rfl
theorem ok71 : bodyOk k71 Tryd.f71 = true := by kernel_rfl
theorem ok72 : bodyOk k72 Tryd.f72 = true := by kernel_rfl
theorem ok73 : bodyOk k73 Tryd.f73 = true := by kernel_rfl
theorem ok75 : bodyOk k75 Tryd.f75 = true := by kernel_rfl
theorem ok78 : bodyOk k78 Tryd.f78 = true := by kernel_rfl
theorem ok83 : bodyOk k83 Tryd.f83 = true := by kernel_rfl
theorem ok89 : bodyOk k89 Tryd.f89 = true := by kernel_rfl
theorem kOk : okProgram goodK Tryd.prog kt := by
 intro f fn c kp hk hf hb
 have gen : ∀ (g : Func) (q : Nat → Option (List Nat)), bodyOk q g = true → g = fn → some q = some kp → okCode (goodK kp) c = true := fun g q h e e2 => by
  subst e
  cases e2
  simp only [bodyOk, hb, Option.all_some] at h
  exact h
 unfold kt at hk
 split at hk
 ·exact gen _ _ ok3 (by rw [fn3] at hf; injection hf) hk
 ·exact gen _ _ ok4 (by rw [fn4] at hf; injection hf) hk
 ·exact gen _ _ ok5 (by rw [fn5] at hf; injection hf) hk
 ·exact gen _ _ ok6 (by rw [fn6] at hf; injection hf) hk
 ·exact gen _ _ ok7 (by rw [fn7] at hf; injection hf) hk
 ·exact gen _ _ ok8 (by rw [fn8] at hf; injection hf) hk
 ·exact gen _ _ ok9 (by rw [fn9] at hf; injection hf) hk
 ·exact gen _ _ ok10 (by rw [fn10] at hf; injection hf) hk
 ·exact gen _ _ ok11 (by rw [fn11] at hf; injection hf) hk
 ·exact gen _ _ ok12 (by rw [fn12] at hf; injection hf) hk
 ·exact gen _ _ ok13 (by rw [fn13] at hf; injection hf) hk
 ·exact gen _ _ ok14 (by rw [fn14] at hf; injection hf) hk
 ·exact gen _ _ ok15 (by rw [fn15] at hf; injection hf) hk
 ·exact gen _ _ ok16 (by rw [fn16] at hf; injection hf) hk
 ·exact gen _ _ ok17 (by rw [fn17] at hf; injection hf) hk
 ·exact gen _ _ ok18 (by rw [fn18] at hf; injection hf) hk
 ·exact gen _ _ ok19 (by rw [fn19] at hf; injection hf) hk
 ·exact gen _ _ ok20 (by rw [fn20] at hf; injection hf) hk
 ·exact gen _ _ ok21 (by rw [fn21] at hf; injection hf) hk
 ·exact gen _ _ ok22 (by rw [fn22] at hf; injection hf) hk
 ·exact gen _ _ ok23 (by rw [fn23] at hf; injection hf) hk
 ·exact gen _ _ ok24 (by rw [fn24] at hf; injection hf) hk
 ·exact gen _ _ ok25 (by rw [fn25] at hf; injection hf) hk
 ·exact gen _ _ ok26 (by rw [fn26] at hf; injection hf) hk
 ·exact gen _ _ ok27 (by rw [fn27] at hf; injection hf) hk
 ·exact gen _ _ ok28 (by rw [fn28] at hf; injection hf) hk
 ·exact gen _ _ ok29 (by rw [fn29] at hf; injection hf) hk
 ·exact gen _ _ ok32 (by rw [fn32] at hf; injection hf) hk
 ·exact gen _ _ ok33 (by rw [fn33] at hf; injection hf) hk
 ·exact gen _ _ ok34 (by rw [fn34] at hf; injection hf) hk
 ·exact gen _ _ ok35 (by rw [fn35] at hf; injection hf) hk
 ·exact gen _ _ ok36 (by rw [fn36] at hf; injection hf) hk
 ·exact gen _ _ ok37 (by rw [fn37] at hf; injection hf) hk
 ·exact gen _ _ ok38 (by rw [fn38] at hf; injection hf) hk
 ·exact gen _ _ ok39 (by rw [fn39] at hf; injection hf) hk
 ·exact gen _ _ ok40 (by rw [fn40] at hf; injection hf) hk
 ·exact gen _ _ ok41 (by rw [fn41] at hf; injection hf) hk
 ·exact gen _ _ ok42 (by rw [fn42] at hf; injection hf) hk
 ·exact gen _ _ ok43 (by rw [fn43] at hf; injection hf) hk
 ·exact gen _ _ ok44 (by rw [fn44] at hf; injection hf) hk
 ·exact gen _ _ ok45 (by rw [fn45] at hf; injection hf) hk
 ·exact gen _ _ ok46 (by rw [fn46] at hf; injection hf) hk
 ·exact gen _ _ ok47 (by rw [fn47] at hf; injection hf) hk
 ·exact gen _ _ ok48 (by rw [fn48] at hf; injection hf) hk
 ·exact gen _ _ ok49 (by rw [fn49] at hf; injection hf) hk
 ·exact gen _ _ ok51 (by rw [fn51] at hf; injection hf) hk
 ·exact gen _ _ ok52 (by rw [fn52] at hf; injection hf) hk
 ·exact gen _ _ ok53 (by rw [fn53] at hf; injection hf) hk
 ·exact gen _ _ ok54 (by rw [fn54] at hf; injection hf) hk
 ·exact gen _ _ ok57 (by rw [fn57] at hf; injection hf) hk
 ·exact gen _ _ ok58 (by rw [fn58] at hf; injection hf) hk
 ·exact gen _ _ ok59 (by rw [fn59] at hf; injection hf) hk
 ·exact gen _ _ ok60 (by rw [fn60] at hf; injection hf) hk
 ·exact gen _ _ ok61 (by rw [fn61] at hf; injection hf) hk
 ·exact gen _ _ ok62 (by rw [fn62] at hf; injection hf) hk
 ·exact gen _ _ ok63 (by rw [fn63] at hf; injection hf) hk
 ·exact gen _ _ ok64 (by rw [fn64] at hf; injection hf) hk
 ·exact gen _ _ ok65 (by rw [fn65] at hf; injection hf) hk
 ·exact gen _ _ ok67 (by rw [fn67] at hf; injection hf) hk
 ·exact gen _ _ ok70 (by rw [fn70] at hf; injection hf) hk
 ·exact gen _ _ ok71 (by rw [fn71] at hf; injection hf) hk
 ·exact gen _ _ ok72 (by rw [fn72] at hf; injection hf) hk
 ·exact gen _ _ ok73 (by rw [fn73] at hf; injection hf) hk
 ·exact gen _ _ ok75 (by rw [fn75] at hf; injection hf) hk
 ·exact gen _ _ ok78 (by rw [fn78] at hf; injection hf) hk
 ·exact gen _ _ ok83 (by rw [fn83] at hf; injection hf) hk
 ·exact gen _ _ ok89 (by rw [fn89] at hf; injection hf) hk
 ·cases hk
end Go.Proofs.YtkdlblpidghjcaaDoor

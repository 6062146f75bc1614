/- What each function still asks for at its loops' heads, and at its ends; its regions may run in any order. No condition. -/
import Derived.Test.YtadllpehekphmaaDoorGt
namespace Go.Proofs.YtadllpehekphmaaDoor
open Go.Vabs
def k3:Nat→Option (List Nat)
 | 0=>some [0,1,2]
 | 1=>some [2,3,4]
 | 2=>some [2,3,4,7]
 | 3=>some [7]
 | 4=>some [2,3,4,7]
 | 5=>some [2,3,4,7,8,9]
 | 6=>some [2,3,4,7,8,9,10,11]
 | 7=>some [2,3,4,7,8,9,10,11,12]
 | 9999=>some [6]
 | _=>none
attribute [simp] k3
def k4:Nat→Option (List Nat)
 | 0=>some [0,1]
 | 1=>some [2,3]
 | 2=>some [2,3,5]
 | 3=>some [5]
 | 4=>some [2,3,5]
 | 5=>some [2,3,5,6,7]
 | 6=>some [2,3,5,6,7,8,9]
 | 7=>some [2,3,5,6,7,8,9,10,11,12]
 | 9999=>some [4]
 | _=>none
attribute [simp] k4
def k5:Nat→Option (List Nat)
 | 0=>some [0]
 | 1=>some [0]
 | 2=>some [0,3]
 | 3=>some [3]
 | 4=>some [0,3]
 | 5=>some [0,3,4,5,6]
 | 6=>some []
 | 7=>some [0,3,4,5,6]
 | 8=>some [3,4,6]
 | 9=>some [0,3,4,5]
 | 10=>some [0,3,4,5,7,8]
 | 9999=>some [2]
 | _=>none
attribute [simp] k5
def k6:Nat→Option (List Nat)
 | 0=>some [0,1,2]
 | 1=>some [1,2,3]
 | 2=>some [1,2,3,7]
 | 3=>some [7]
 | 4=>some [1,2,3,7]
 | 5=>some [1,2,3,7,8,9]
 | 6=>some []
 | 7=>some [1,2,3,7,8]
 | 8=>some [2,3,7,8,11,12]
 | 9=>some [3,7,8,11,12,13]
 | 10=>some [3,7,8,11,12,13,14,15,16]
 | 11=>some []
 | 12=>some [3,7,14,16]
 | 9999=>some [6]
 | _=>none
attribute [simp] k6
def k7:Nat→Option (List Nat)
 | 0=>some [0]
 | 1=>some [1]
 | 2=>some [1,3]
 | 3=>some [3]
 | 4=>some [1,3]
 | 5=>some [1,3,4]
 | 6=>some [1,3,4]
 | 7=>some []
 | 8=>some [1,3]
 | 9=>some [1,3]
 | 10=>some [1,3,5]
 | 11=>some [1,3,5]
 | 12=>some []
 | 13=>some [1,3]
 | 14=>some [1,3,6]
 | 15=>some [1,3,6,7]
 | 16=>some [1,3,6,7]
 | 17=>some [1,3,6,7]
 | 18=>some [3,6]
 | 19=>some [1,3,6]
 | 20=>some [1,3,6]
 | 21=>some [3,6]
 | 20000=>some [1,3,6]
 | 20001=>some [1,3,6,7]
 | 9999=>some [2]
 | _=>none
attribute [simp] k7
def k8:Nat→Option (List Nat)
 | 0=>some [0,1,2]
 | 1=>some [2,3,4]
 | 2=>some [2,3,4,7]
 | 3=>some [7]
 | 4=>some [2,3,4,7]
 | 5=>some [2,3,4,7,8]
 | 6=>some [2,3,4,7,8]
 | 7=>some [2,3,4,7,8,9]
 | 8=>some [2,3,4,7,8,9,10]
 | 9=>some [2,3,7,8,9,10]
 | 10=>some []
 | 11=>some [2,3,7,8,10]
 | 30005=>some [4,37]
 | 9999=>some [6]
 | _=>none
attribute [simp] k8
def k9:Nat→Option (List Nat)
 | 0=>some []
 | 1=>some []
 | 2=>some [1]
 | 3=>some [1,2,3]
 | 4=>some [1,2,3,4,5,6]
 | 9999=>some [0]
 | _=>none
attribute [simp] k9
def k10:Nat→Option (List Nat)
 | 0=>some [0,1]
 | 1=>some [1,2]
 | 2=>some []
 | 3=>some [2]
 | 4=>some [2,5]
 | 5=>some [2,5]
 | 6=>some [2,5]
 | 7=>some []
 | 8=>some []
 | 20000=>some []
 | 20001=>some [2,5]
 | 9999=>some [4]
 | _=>none
attribute [simp] k10
def k11:Nat→Option (List Nat)
 | 0=>some [0]
 | 1=>some [1]
 | 2=>some []
 | 3=>some [1]
 | 4=>some [1,4]
 | 5=>some [1,4]
 | 6=>some [1,4,39,40]
 | 7=>some [1,4,39,40]
 | 8=>some [1,4,5,39,40]
 | 9=>some [1,4,39,40]
 | 10=>some [1,4]
 | 11=>some [1,4,51,52,53]
 | 12=>some [1,4,51,52,53]
 | 13=>some [1,4,6,7,51,52,53]
 | 14=>some [1,4,51,52,53]
 | 15=>some [1,4]
 | 16=>some [1,4,79,80,81]
 | 17=>some [1,4,79,80,81]
 | 18=>some [1,4,9,79,80,81]
 | 19=>some [1,4,79,80,81]
 | 20=>some [1,4]
 | 21=>some [1,4,91,92,93]
 | 22=>some [1,4,91,92,93]
 | 23=>some [1,4,10,11,91,92,93]
 | 24=>some [1,4,91,92,93]
 | 25=>some [1,4]
 | 20000=>some [1,4]
 | 20001=>some [1,4,39,40]
 | 20002=>some [1,4]
 | 20003=>some [1,4,51,52,53]
 | 20004=>some [1,4]
 | 20005=>some [1,4,79,80,81]
 | 20006=>some [1,4]
 | 20007=>some [1,4,91,92,93]
 | 30025=>some [300001]
 | 9999=>some [2,3]
 | _=>none
attribute [simp] k11
def k12:Nat→Option (List Nat)
 | 0=>some [0]
 | 1=>some [1]
 | 2=>some [1,4]
 | 3=>some []
 | 4=>some [1]
 | 5=>some [1,5]
 | 6=>some [1,5,6]
 | 7=>some [1,5,6]
 | 8=>some [1,5,6]
 | 9=>some [1,5]
 | 10=>some [1,5,7]
 | 11=>some [1,5,7]
 | 12=>some [1,5,7]
 | 13=>some [1,5]
 | 14=>some [1,5]
 | 15=>some [1,5,8]
 | 16=>some [1,5,8]
 | 17=>some [1,5,8]
 | 18=>some [1,5]
 | 20000=>some [1,5]
 | 20001=>some [1,5,6]
 | 20002=>some [1,5]
 | 20003=>some [1,5,7]
 | 20004=>some [1,5]
 | 20005=>some [1,5,8]
 | 9999=>some [2,3]
 | _=>none
attribute [simp] k12
def k13:Nat→Option (List Nat)
 | 0=>some [0]
 | 1=>some [1]
 | 2=>some []
 | 3=>some [1]
 | 4=>some [1,3]
 | 5=>some [1,3,4]
 | 6=>some [1,3,4,5]
 | 7=>some [1,3,4,5,6]
 | 8=>some []
 | 9=>some [1,3]
 | 10=>some [1,3,7]
 | 11=>some [1,3,7]
 | 12=>some [1,3,7]
 | 13=>some [1,3,7,8]
 | 14=>some []
 | 15=>some [1]
 | 16=>some [1,9]
 | 17=>some [1,9]
 | 18=>some [1,9]
 | 19=>some [1,9,10]
 | 20=>some []
 | 21=>some [1]
 | 22=>some [1,11]
 | 23=>some [1,11]
 | 24=>some [1,11]
 | 25=>some [1,11,12]
 | 26=>some [1,11,12,13]
 | 27=>some []
 | 28=>some [1,11,12]
 | 29=>some [1,11,12]
 | 30=>some [1,11,14]
 | 31=>some []
 | 32=>some []
 | 20000=>some [1]
 | 20001=>some [1,3,7]
 | 20002=>some [1]
 | 20003=>some [1,9]
 | 20004=>some []
 | 20005=>some [1,11]
 | 9999=>some [2]
 | _=>none
attribute [simp] k13
def k14:Nat→Option (List Nat)
 | 0=>some [0]
 | 1=>some [1]
 | 2=>some []
 | 3=>some [1]
 | 4=>some [1,3]
 | 5=>some [1,3,37,38,39]
 | 6=>some [1,3,37,38,39]
 | 7=>some [1,3,4,5,37,38,39]
 | 8=>some []
 | 9=>some [1,3,37,38,39]
 | 10=>some [1,3]
 | 11=>some [1,3,71,72,73]
 | 12=>some [1,3,71,72,73]
 | 13=>some [1,3,6,7,71,72,73]
 | 14=>some []
 | 15=>some [1,3,71,72,73]
 | 16=>some [1,3]
 | 17=>some [1,3,110,111,112]
 | 18=>some [1,3,110,111,112]
 | 19=>some [1,3,9,110,111,112]
 | 20=>some []
 | 21=>some [1,3,110,111,112]
 | 22=>some [1]
 | 20000=>some [1,3]
 | 20001=>some [1,3,37,38,39]
 | 20002=>some [1,3]
 | 20003=>some [1,3,71,72,73]
 | 20004=>some [1]
 | 20005=>some [1,3,110,111,112]
 | 9999=>some [2]
 | _=>none
attribute [simp] k14
def k15:Nat→Option (List Nat)
 | 0=>some [0,1]
 | 1=>some [2,3]
 | 2=>some [2,3,5]
 | 9999=>some [4]
 | _=>none
attribute [simp] k15
def k16:Nat→Option (List Nat)
 | 0=>some [0,1]
 | 1=>some [2,3]
 | 2=>some [2,3,5]
 | 3=>some [2,3,5,6]
 | 4=>some [2,3,5,6,7]
 | 5=>some []
 | 6=>some [2,3]
 | 7=>some [2,3,8]
 | 8=>some [2,3,8]
 | 9=>some [2,3,8]
 | 10=>some []
 | 11=>some [2,3]
 | 12=>some [2,3,9]
 | 13=>some [2,3,9]
 | 14=>some [2,3,9]
 | 15=>some []
 | 16=>some [2,3]
 | 17=>some [2,3,10]
 | 18=>some [2,3,10]
 | 19=>some [2,3,10]
 | 20=>some []
 | 21=>some []
 | 20000=>some [2,3]
 | 20001=>some [2,3,8]
 | 20002=>some [2,3]
 | 20003=>some [2,3,9]
 | 20004=>some []
 | 20005=>some [2,3,10]
 | 9999=>some [4]
 | _=>none
attribute [simp] k16
def k17:Nat→Option (List Nat)
 | 0=>some [0]
 | 1=>some [1]
 | 9999=>some [2]
 | _=>none
attribute [simp] k17
def k18:Nat→Option (List Nat)
 | 0=>some [0]
 | 1=>some [1]
 | 9999=>some [2]
 | _=>none
attribute [simp] k18
def k19:Nat→Option (List Nat)
 | 0=>some [0,1]
 | 1=>some [1,2]
 | 2=>some [1,2,5]
 | 3=>some [2,5]
 | 4=>some [5,11,12,13]
 | 5=>some [5,11,12,13]
 | 6=>some [5,7,11,12,13]
 | 7=>some [5,11,12,13]
 | 8=>some [5]
 | 20000=>some [5]
 | 20001=>some [5,11,12,13]
 | 9999=>some [4]
 | _=>none
attribute [simp] k19
def k20:Nat→Option (List Nat)
 | 0=>some [0,1]
 | 1=>some [1,2]
 | 2=>some [1,2,5]
 | 3=>some [1,2,5]
 | 4=>some [1,2,5]
 | 5=>some [1,2,5,6]
 | 6=>some [1]
 | 20000=>some [1]
 | 20001=>some [1,2,5]
 | 9999=>some [4]
 | _=>none
attribute [simp] k20
def k22:Nat→Option (List Nat)
 | 0=>some [0,1]
 | 1=>some [2,3]
 | 2=>some [2,3,5]
 | 3=>some [2,3,5,6]
 | 9999=>some [4]
 | _=>none
attribute [simp] k22
def k23:Nat→Option (List Nat)
 | 0=>some [0,1]
 | 1=>some [0,1]
 | 2=>some [0,1]
 | 3=>some [1]
 | 9999=>some [4,5]
 | _=>none
attribute [simp] k23
def k24:Nat→Option (List Nat)
 | 0=>some [0]
 | 1=>some [0]
 | 2=>some [0,3]
 | 3=>some [3,6,7,8]
 | 4=>some [3,6,7,8]
 | 5=>some [3,5,6,7,8]
 | 6=>some [3,6,7,8]
 | 7=>some [3]
 | 20000=>some [3]
 | 20001=>some [3,6,7,8]
 | 9999=>some [2]
 | _=>none
attribute [simp] k24
def k25:Nat→Option (List Nat)
 | 0=>some [0]
 | 1=>some [0]
 | 2=>some [0,3]
 | 3=>some [0,3,9,10,11]
 | 4=>some [0,3,9,10,11]
 | 5=>some [0,3,5,9,10,11]
 | 6=>some [0,3,9,10,11]
 | 7=>some [0,3,9,10,11]
 | 8=>some [0,3,9,10,11]
 | 9=>some [0,3]
 | 10=>some [0,6]
 | 11=>some [6,25,26,27]
 | 12=>some [6,25,26,27]
 | 13=>some [6,8,25,26,27]
 | 14=>some [6,25,26,27]
 | 15=>some [6]
 | 20000=>some [0,3]
 | 20001=>some [0,3,9,10,11]
 | 20002=>some [6]
 | 20003=>some [6,25,26,27]
 | 9999=>some [2]
 | _=>none
attribute [simp] k25
def k27:Nat→Option (List Nat)
 | 0=>some [0]
 | 1=>some [1]
 | 9999=>some [2]
 | _=>none
attribute [simp] k27
def k28:Nat→Option (List Nat)
 | 0=>some [0,1]
 | 1=>some [0,1]
 | 9999=>some [4]
 | _=>none
attribute [simp] k28
def k29:Nat→Option (List Nat)
 | 0=>some [0,1]
 | 1=>some [0,1]
 | 2=>some [0,1,5]
 | 3=>some [0,1,5]
 | 4=>some [0,1,5]
 | 5=>some [0]
 | 20000=>some [0]
 | 20001=>some [0,1,5]
 | 9999=>some [4]
 | _=>none
attribute [simp] k29
def k30:Nat→Option (List Nat)
 | 0=>some [0,1]
 | 1=>some [0,1]
 | 2=>some [0,1,5]
 | 3=>some [0,1,5]
 | 4=>some [0,1,5]
 | 5=>some []
 | 6=>some [0]
 | 20000=>some [0]
 | 20001=>some [0,1,5]
 | 9999=>some [4]
 | _=>none
attribute [simp] k30
def k31:Nat→Option (List Nat)
 | 0=>some [0]
 | 1=>some [0]
 | 2=>some [0,3]
 | 3=>some [0,3,4]
 | 4=>some [0,3,4]
 | 5=>some [0,3,4,5]
 | 6=>some []
 | 7=>some [0,3,4,5]
 | 8=>some [0,3,4]
 | 9=>some [3]
 | 20000=>some [3]
 | 20001=>some [0,3,4]
 | 9999=>some [2]
 | _=>none
attribute [simp] k31
def k32:Nat→Option (List Nat)
 | 0=>some [0,1]
 | 1=>some [1,2]
 | 2=>some [2,5]
 | 3=>some [2]
 | 4=>some [2,5]
 | 5=>some [2]
 | 6=>some [2,5]
 | 7=>some [2]
 | 8=>some [2,5]
 | 9=>some [2]
 | 10=>some [2,5]
 | 11=>some [2]
 | 12=>some []
 | 20000=>some []
 | 9999=>some [4]
 | _=>none
attribute [simp] k32
def k33:Nat→Option (List Nat)
 | 0=>some [0]
 | 1=>some [0]
 | 2=>some [0,3]
 | 3=>some [0,3,4]
 | 4=>some [0,3,4]
 | 5=>some [0,3,4]
 | 6=>some [4]
 | 7=>some []
 | 20000=>some []
 | 20001=>some [0,3,4]
 | 9999=>some [2]
 | _=>none
attribute [simp] k33
def k34:Nat→Option (List Nat)
 | 0=>some [0,1]
 | 1=>some [0,1]
 | 9999=>some [3]
 | _=>none
attribute [simp] k34
def k35:Nat→Option (List Nat)
 | 0=>some [0,1]
 | 1=>some [0,1]
 | 9999=>some [4]
 | _=>none
attribute [simp] k35
def k36:Nat→Option (List Nat)
 | 0=>some [0]
 | 1=>some [1]
 | 2=>some [1,6,7,8]
 | 3=>some [1,6,7,8]
 | 4=>some [1,3,4,6,7,8]
 | 5=>some []
 | 6=>some [1,6,7,8]
 | 7=>some [1]
 | 20000=>some [1]
 | 20001=>some [1,6,7,8]
 | 9999=>some [2]
 | _=>none
attribute [simp] k36
def k37:Nat→Option (List Nat)
 | 0=>some [0,1]
 | 1=>some [0,1]
 | 2=>some []
 | 3=>some [0,1]
 | 4=>some [0,1,12,13]
 | 5=>some [0,1,12,13]
 | 6=>some [0,1,5,12,13]
 | 7=>some []
 | 8=>some [0,1,12,13]
 | 9=>some []
 | 20000=>some []
 | 20001=>some [0,1,12,13]
 | 9999=>some [4]
 | _=>none
attribute [simp] k37
def k38:Nat→Option (List Nat)
 | 0=>some [0,1]
 | 1=>some [0,1]
 | 2=>some []
 | 3=>some [0,1]
 | 4=>some [0,1,12,13]
 | 5=>some [0,1,12,13]
 | 6=>some [0,1,5,12,13]
 | 7=>some []
 | 8=>some [0,1,12,13]
 | 9=>some []
 | 20000=>some []
 | 20001=>some [0,1,12,13]
 | 9999=>some [4]
 | _=>none
attribute [simp] k38
def k39:Nat→Option (List Nat)
 | 0=>some [0,1]
 | 1=>some [0,1]
 | 2=>some []
 | 3=>some [0,1]
 | 4=>some [0,1,12,13]
 | 5=>some [0,1,12,13]
 | 6=>some [0,1,5,12,13]
 | 7=>some []
 | 8=>some [0,1,12,13]
 | 9=>some []
 | 20000=>some []
 | 20001=>some [0,1,12,13]
 | 9999=>some [4]
 | _=>none
attribute [simp] k39
def k40:Nat→Option (List Nat)
 | 0=>some [0,1]
 | 1=>some [0,1]
 | 2=>some []
 | 3=>some [0,1]
 | 4=>some [0,1,12,13]
 | 5=>some [0,1,12,13]
 | 6=>some [0,1,5,12,13]
 | 7=>some []
 | 8=>some [0,1,12,13]
 | 9=>some []
 | 20000=>some []
 | 20001=>some [0,1,12,13]
 | 9999=>some [4]
 | _=>none
attribute [simp] k40
def k41:Nat→Option (List Nat)
 | 0=>some [0,1]
 | 1=>some [0,1]
 | 2=>some []
 | 3=>some [0,1]
 | 4=>some [0,1,5]
 | 5=>some [0,1,5]
 | 6=>some [0,1,5]
 | 7=>some []
 | 8=>some []
 | 20000=>some []
 | 20001=>some [0,1,5]
 | 9999=>some [4]
 | _=>none
attribute [simp] k41
def k44:Nat→Option (List Nat)
 | 0=>some [0]
 | 1=>some [0,2]
 | 2=>some [0,2]
 | 3=>some [0,2,3]
 | 4=>some [0,2,3,4]
 | 5=>some [0,2,3,4,5]
 | 6=>some [0,2,3,4,5,6]
 | 7=>some [0,2,3,4,5,6,7]
 | 8=>some [0,2,3,4,5,6,7,8]
 | 9=>some [0,2,3,4,5,6,7,8,9]
 | 10=>some [0,2,3,4,5,6,7,8,9,10]
 | 11=>some [0,2,3,4,5,6,7,8,9,10]
 | 12=>some [0,2,4,5,6,7,8,9,10]
 | 13=>some [0,2,4,5,6,7,8,9,10,11]
 | 14=>some [0,2,5,6,7,8,9,10,11,12]
 | 15=>some [0,2,5,6,7,8,9,10,11,12,57,58]
 | 16=>some [0,2,5,6,7,8,9,10,11,12,57,58]
 | 17=>some [0,2,5,6,7,8,9,10,11,12,13,57,58]
 | 18=>some [0,2,5,6,7,8,9,10,11,12,57,58]
 | 19=>some [0,2,5,6,7,8,9,10,11,12]
 | 20=>some [2000000,5,1,47,2,2000000,5,2,53,2,2000000,5,6,49,3,0,2,5,6,7,8,9,10,11,12,69,70]
 | 21=>some [0,2,5,6,7,8,9,10,11,12,69,70]
 | 22=>some [0,2,5,6,7,8,9,10,11,12,14,69,70]
 | 23=>some [0,2,5,6,7,8,9,10,11,12,14,69,70]
 | 24=>some [0,2,5,6,7,8,9,10,11,12,14,15,69,70]
 | 25=>some [0,2,5,6,7,8,9,10,11,12,14,15,16,69,70]
 | 26=>some [0,2,5,6,7,8,9,10,11,12,14,15,16,69,70]
 | 27=>some [0,2,5,6,7,8,9,10,11,12,15,16,69,70]
 | 28=>some [0,2,5,6,7,8,9,10,11,12,15,69,70]
 | 29=>some [0,2,5,6,7,8,9,10,11,12,69,70]
 | 30=>some [0,2,5,6,7,8,9,10,11,12]
 | 31=>some [0,2,5,6,8,11]
 | 32=>some [0,2,5,6,11,134,135]
 | 33=>some [0,2,5,6,11,134,135]
 | 34=>some [0,2,5,6,11,17,134,135]
 | 35=>some [0,2,5,6,11,18,134,135]
 | 36=>some [0,2,5,6,11,18,134,135]
 | 37=>some [0,2,5,6,11,19,134,135]
 | 38=>some [0,2,5,6,11,19,134,135]
 | 39=>some [0,2,5,6,11,134,135]
 | 40=>some [0,2,5]
 | 41=>some [2,5]
 | 20000=>some [0,2,5,6,7,8,9,10,11,12]
 | 20001=>some [0,2,5,6,7,8,9,10,11,12,57,58]
 | 20002=>some [0,2,5,6,7,8,9,10,11,12]
 | 20003=>some [0,2,5,6,7,8,9,10,11,12,69,70]
 | 20004=>some [0,2,5]
 | 20005=>some [0,2,5,6,11,134,135]
 | 30001=>some [1000000]
 | 30003=>some [1000000]
 | 30004=>some [1000000]
 | 30005=>some [1000000]
 | 30006=>some [1000000]
 | 30007=>some [1000000]
 | 30008=>some [1000000]
 | 30009=>some [1000000]
 | 30011=>some [1000000]
 | 30017=>some [1000000]
 | 30022=>some [1000000]
 | 30023=>some [1000000]
 | 30025=>some [1000000]
 | 30027=>some [1000000]
 | 30030=>some [1000000]
 | 30035=>some [1000000]
 | 30036=>some [1000000]
 | 30037=>some [1000000]
 | 30040=>some [1000000]
 | 9999=>some [2]
 | _=>none
attribute [simp] k44
def k47:Nat→Option (List Nat)
 | 0=>some [0,1]
 | 1=>some [0,1]
 | 2=>some [0,1]
 | 3=>some [0,1]
 | 4=>some [0,1]
 | 5=>some [0,1]
 | 6=>some [0]
 | 9999=>some [4]
 | _=>none
attribute [simp] k47
def k48:Nat→Option (List Nat)
 | 0=>some [0]
 | 1=>some [0]
 | 2=>some [0]
 | 3=>some [0]
 | 4=>some [0,3]
 | 5=>some [3]
 | 6=>some [0,3]
 | 9999=>some [2]
 | _=>none
attribute [simp] k48
def k49:Nat→Option (List Nat)
 | 0=>some [0,1]
 | 1=>some [0,1]
 | 2=>some [0,1,5]
 | 3=>some [0,1,5,6]
 | 4=>some [0,1,5,6,7]
 | 5=>some [0,1,6]
 | 6=>some [0,1,5,6]
 | 7=>some [0,1,5,6]
 | 8=>some [0,1,5,6,7]
 | 9=>some [0,1,6]
 | 10=>some [0,1,5,6]
 | 11=>some [0,1,5,6]
 | 12=>some [0,1,5,6,7]
 | 13=>some [0,1,6]
 | 14=>some [0,1,5,6]
 | 15=>some [0,1,5,6]
 | 16=>some [0,1,5,6,7]
 | 17=>some []
 | 18=>some [0,1,5,6,7]
 | 19=>some [0,1,5,6,7,8]
 | 20=>some [0,1,5,6,7,8]
 | 21=>some [0,1,5,6,7,8]
 | 22=>some []
 | 23=>some [0,1,5,6,7,8]
 | 24=>some [5,6,7]
 | 25=>some []
 | 26=>some [5]
 | 20000=>some [5,6,7]
 | 20001=>some [0,1,5,6,7,8]
 | 9999=>some [4]
 | _=>none
attribute [simp] k49
def k50:Nat→Option (List Nat)
 | 0=>some [0,1]
 | 1=>some [0,1]
 | 2=>some [0,1,7,8]
 | 3=>some [0,1,7,8]
 | 4=>some [0,1,5,7,8]
 | 5=>some [5]
 | 6=>some [0,1,7,8]
 | 7=>some []
 | 20000=>some []
 | 20001=>some [0,1,7,8]
 | 9999=>some [4]
 | _=>none
attribute [simp] k50
def k51:Nat→Option (List Nat)
 | 0=>some [0,1]
 | 1=>some [1,2]
 | 2=>some [2,5]
 | 3=>some [2]
 | 4=>some [2,5]
 | 5=>some [2]
 | 6=>some [2,5]
 | 7=>some [2]
 | 8=>some [2,5]
 | 9=>some [2]
 | 10=>some [2,5]
 | 11=>some [2]
 | 12=>some []
 | 20000=>some []
 | 9999=>some [4]
 | _=>none
attribute [simp] k51
def k52:Nat→Option (List Nat)
 | 0=>some [0]
 | 1=>some [0]
 | 2=>some [0,3]
 | 3=>some [0,3,9]
 | 4=>some [0,3,9,10]
 | 5=>some [0,3,4,5,9]
 | 6=>some [0,3,5,7,9]
 | 7=>some []
 | 8=>some [0,3,9]
 | 9=>some [3]
 | 20000=>some [3]
 | 20001=>some [0,3,9]
 | 9999=>some [2]
 | _=>none
attribute [simp] k52
def k53:Nat→Option (List Nat)
 | 0=>some [0,1]
 | 1=>some [2,3]
 | 2=>some [2,3,5,6]
 | 9999=>some [4]
 | _=>none
attribute [simp] k53
def k55:Nat→Option (List Nat)
 | 0=>some [0,1]
 | 1=>some [0,4,5]
 | 2=>some [0,4]
 | 3=>some [0,4]
 | 30002=>some [1000000]
 | 9999=>some []
 | _=>none
attribute [simp] k55
def k56:Nat→Option (List Nat)
 | 0=>some [0,1,2]
 | 1=>some [0,1,2]
 | 2=>some [0,2,7,8,9]
 | 3=>some [0,2,7,8,9]
 | 4=>some [0,2,7,8]
 | 5=>some [0,2,7]
 | 6=>some [7]
 | 30003=>some [1000000]
 | 30005=>some [1000000]
 | 9999=>some [6]
 | _=>none
attribute [simp] k56
def k57:Nat→Option (List Nat)
 | 0=>some [0]
 | 1=>some [0]
 | 9999=>some [2]
 | _=>none
attribute [simp] k57
def k58:Nat→Option (List Nat)
 | 0=>some [0,1,2]
 | 1=>some [0,1,2]
 | 2=>some [0,1,2,7]
 | 3=>some [0,2,7,8,9]
 | 4=>some [0,2,7,8,9]
 | 5=>some [0,2,7,8,9]
 | 6=>some [7]
 | 20000=>some [7]
 | 20001=>some [0,2,7,8,9]
 | 30004=>some [1000000]
 | 9999=>some [6]
 | _=>none
attribute [simp] k58
def k59:Nat→Option (List Nat)
 | 0=>some [0,1]
 | 1=>some [0,1]
 | 2=>some [0,1,4]
 | 3=>some [0,1,4,5]
 | 4=>some [0,1,4,5]
 | 5=>some [0,1,4,5]
 | 6=>some [0,1,4,5]
 | 7=>some [0,1,4,5]
 | 8=>some [0,1,4,5]
 | 9=>some [0,1,4,5]
 | 10=>some [0,1,4,5,6,7,8]
 | 11=>some [0,1,4,5,6,7,8]
 | 12=>some [0,1,4,5,6,7]
 | 13=>some [0,1,4,5]
 | 14=>some [0,1,4,5]
 | 15=>some [0,1,4,5,9]
 | 16=>some [0,1,4,5]
 | 17=>some [0,1,5]
 | 20000=>some []
 | 20001=>some [0,1]
 | 30004=>some [1000000]
 | 30006=>some [1000000]
 | 30008=>some [1000000]
 | 30011=>some [1000000]
 | 30013=>some [1000000]
 | 30016=>some [1000000]
 | 30017=>some [400001]
 | 9999=>some []
 | _=>none
attribute [simp] k59
def k62:Nat→Option (List Nat)
 | 0=>some [0]
 | 1=>some [0]
 | 2=>some [0]
 | 3=>some [0]
 | 9999=>some [2,3]
 | _=>none
attribute [simp] k62
def k63:Nat→Option (List Nat)
 | 0=>some [0,1]
 | 1=>some [0,1]
 | 9999=>some [4]
 | _=>none
attribute [simp] k63
def k65:Nat→Option (List Nat)
 | 0=>some [0,1,2]
 | 1=>some [0,1,2]
 | 2=>some []
 | 3=>some [0,1,2]
 | 4=>some [1]
 | 5=>some [1,2]
 | 9999=>some [6,7]
 | _=>none
attribute [simp] k65
def k66:Nat→Option (List Nat)
 | 0=>some [0,1,2]
 | 1=>some [0,1,2]
 | 2=>some []
 | 3=>some [0,1,2]
 | 4=>some [0,1,2,9]
 | 5=>some [1]
 | 6=>some [0,1,2,9]
 | 7=>some [0,1,2,9,10]
 | 8=>some [1,2,9,10,40,41,42]
 | 9=>some [1,2,9,10,40,41,42]
 | 10=>some [1,2,9,10,12,40,41,42]
 | 11=>some [1,2,9,10,40,41,42]
 | 12=>some [1]
 | 13=>some [1,2,9,10,40,41,42]
 | 14=>some [9,10]
 | 20000=>some [9,10]
 | 20001=>some [1,2,9,10,40,41,42]
 | 9999=>some [6,7,8]
 | _=>none
attribute [simp] k66
def k67:Nat→Option (List Nat)
 | 0=>some [0,1]
 | 1=>some [0,1]
 | 2=>some []
 | 3=>some [0,1]
 | 4=>some [1,7]
 | 5=>some [1]
 | 6=>some [1,7]
 | 9999=>some [4,5,6]
 | _=>none
attribute [simp] k67
def k69:Nat→Option (List Nat)
 | 0=>some [0]
 | 1=>some [0]
 | 2=>some [0,4]
 | 3=>some []
 | 4=>some [0,4]
 | 5=>some [0,4,5]
 | 6=>some [0,4,5,6]
 | 7=>some [0,6]
 | 8=>some [0,7]
 | 9=>some [0,4,5,6]
 | 10=>some [0,4,5,6,8]
 | 11=>some [0,4,5,8,9]
 | 12=>some []
 | 13=>some [0,5,8,9]
 | 14=>some [0,5,8,9,10]
 | 15=>some []
 | 16=>some [0,5,8,10]
 | 17=>some [5,10]
 | 18=>some [0,5,8,10]
 | 19=>some [0,5,8,10,11]
 | 20=>some []
 | 21=>some [0,5,8,10,11]
 | 22=>some [5,10,11]
 | 23=>some [0,5,10,11]
 | 24=>some [5,10,11,12]
 | 25=>some []
 | 26=>some [5,10,11,12]
 | 9999=>some [2,3]
 | _=>none
attribute [simp] k69
def k70:Nat→Option (List Nat)
 | 0=>some [0,1]
 | 1=>some [0,1]
 | 9999=>some [4]
 | _=>none
attribute [simp] k70
def k75:Nat→Option (List Nat)
 | 0=>some [0,1]
 | 1=>some [0,1]
 | 9999=>some [4]
 | _=>none
attribute [simp] k75
def k76:Nat→Option (List Nat)
 | 0=>some [0,1]
 | 1=>some [0,1]
 | 9999=>some [4]
 | _=>none
attribute [simp] k76
def k77:Nat→Option (List Nat)
 | 0=>some [0,1,2]
 | 1=>some [0,1,5]
 | 2=>some [0,1,7]
 | 3=>some [0]
 | 4=>some [1,7]
 | 9999=>some [6]
 | _=>none
attribute [simp] k77
def k78:Nat→Option (List Nat)
 | 0=>some [0]
 | 1=>some [0]
 | 9999=>some [2]
 | _=>none
attribute [simp] k78
def k79:Nat→Option (List Nat)
 | 0=>some [0,1]
 | 1=>some [0,1]
 | 9999=>some [4,5,6]
 | _=>none
attribute [simp] k79
def k87:Nat→Option (List Nat)
 | 0=>some [0,1]
 | 1=>some [0,1]
 | 9999=>some [4]
 | _=>none
attribute [simp] k87
def k88:Nat→Option (List Nat)
 | 0=>some [0,1]
 | 1=>some [0,1]
 | 9999=>some [4]
 | _=>none
attribute [simp] k88
def k89:Nat→Option (List Nat)
 | 0=>some [0,1]
 | 1=>some [0,1]
 | 9999=>some [3]
 | _=>none
attribute [simp] k89
def k90:Nat→Option (List Nat)
 | 0=>some [0,1]
 | 1=>some [0,1]
 | 2=>some [0,1,7]
 | 3=>some [0,1,7]
 | 4=>some [0]
 | 9999=>some [4,5,6]
 | _=>none
attribute [simp] k90
def k93:Nat→Option (List Nat)
 | 0=>some [0,1,2]
 | 1=>some [0,1,2]
 | 2=>some [0,1,2,7]
 | 3=>some [0,1,2,7]
 | 4=>some [0,1,2,7,8,9]
 | 5=>some [7]
 | 6=>some [0,1,2,7,9]
 | 7=>some []
 | 20000=>some []
 | 20001=>some [0,1,2,7]
 | 9999=>some [6]
 | _=>none
attribute [simp] k93
def k94:Nat→Option (List Nat)
 | 0=>some [0,1]
 | 1=>some [0,1]
 | 2=>some [0,1,5]
 | 3=>some []
 | 4=>some [0,1,5]
 | 5=>some [0,1]
 | 6=>some [0,1,5]
 | 7=>some []
 | 8=>some [0,1,5]
 | 9=>some [0,1]
 | 10=>some [0,1,5]
 | 11=>some [0,1,5,6]
 | 12=>some [0,1,5,6,7]
 | 13=>some [0,1,5,6,7,8]
 | 14=>some [0,1,5,6,7,8,9]
 | 15=>some [0,1,5,6,7,8,9,10]
 | 16=>some [0,1,5,6,7,8,9,10]
 | 17=>some [0,1,5,6,7,8,9,10]
 | 18=>some [0,1,5,6,7,8,9,10,11]
 | 19=>some []
 | 20=>some [0,1,5,6,7,8,9,10,11]
 | 21=>some [0,1,5,6,7,8,9,10]
 | 22=>some [8]
 | 23=>some [0,1,5,6,7,8,9,10]
 | 24=>some [0,1,5,6,7,8,9,10]
 | 25=>some [0,1,5,6,7,8,9,10]
 | 26=>some [0,1,8]
 | 27=>some [8,12]
 | 28=>some [8,12]
 | 29=>some []
 | 30=>some [0,1,5,6,7,8,9,10]
 | 31=>some [0,1,8]
 | 32=>some [8,13]
 | 33=>some []
 | 34=>some [8,13]
 | 35=>some []
 | 20000=>some [0,1,5]
 | 20001=>some []
 | 20002=>some [0,1,5,6,7,8,9,10]
 | 9999=>some [4]
 | _=>none
attribute [simp] k94
def k95:Nat→Option (List Nat)
 | 0=>some [0]
 | 1=>some [0]
 | 2=>some [0,6,7,8]
 | 3=>some [0,6,8]
 | 4=>some [0,5]
 | 5=>some [5]
 | 6=>some [0,6,7,8]
 | 7=>some [0]
 | 20000=>some [0]
 | 20001=>some [0,6,7,8]
 | 9999=>some [2,3]
 | _=>none
attribute [simp] k95
def k99:Nat→Option (List Nat)
 | 0=>some [0]
 | 1=>some [0]
 | 2=>some [0,4]
 | 3=>some []
 | 4=>some [0,4]
 | 5=>some [0,4,5]
 | 6=>some [0,4,5,6]
 | 7=>some [0,6]
 | 8=>some [0,7]
 | 9=>some [0,4,5,6]
 | 10=>some [0,4,5,6,8]
 | 11=>some [0,4,5,8,9]
 | 12=>some []
 | 13=>some [0,5,8,9]
 | 14=>some [0,5,8,9,10]
 | 15=>some []
 | 16=>some [0,5,8,10]
 | 17=>some [5,10]
 | 18=>some [0,5,8,10]
 | 19=>some [0,5,8,10,11]
 | 20=>some []
 | 21=>some [0,5,8,10,11]
 | 22=>some [5,10,11]
 | 23=>some [0,5,10,11]
 | 24=>some [5,10,11,12]
 | 25=>some []
 | 26=>some [5,10,11,12]
 | 9999=>some [2,3]
 | _=>none
attribute [simp] k99
def kt:Nat→Option (Nat→Option (List Nat))
 | 3=>some k3
 | 4=>some k4
 | 5=>some k5
 | 6=>some k6
 | 7=>some k7
 | 8=>some k8
 | 9=>some k9
 | 10=>some k10
 | 11=>some k11
 | 12=>some k12
 | 13=>some k13
 | 14=>some k14
 | 15=>some k15
 | 16=>some k16
 | 17=>some k17
 | 18=>some k18
 | 19=>some k19
 | 20=>some k20
 | 22=>some k22
 | 23=>some k23
 | 24=>some k24
 | 25=>some k25
 | 27=>some k27
 | 28=>some k28
 | 29=>some k29
 | 30=>some k30
 | 31=>some k31
 | 32=>some k32
 | 33=>some k33
 | 34=>some k34
 | 35=>some k35
 | 36=>some k36
 | 37=>some k37
 | 38=>some k38
 | 39=>some k39
 | 40=>some k40
 | 41=>some k41
 | 44=>some k44
 | 47=>some k47
 | 48=>some k48
 | 49=>some k49
 | 50=>some k50
 | 51=>some k51
 | 52=>some k52
 | 53=>some k53
 | 55=>some k55
 | 56=>some k56
 | 57=>some k57
 | 58=>some k58
 | 59=>some k59
 | 62=>some k62
 | 63=>some k63
 | 65=>some k65
 | 66=>some k66
 | 67=>some k67
 | 69=>some k69
 | 70=>some k70
 | 75=>some k75
 | 76=>some k76
 | 77=>some k77
 | 78=>some k78
 | 79=>some k79
 | 87=>some k87
 | 88=>some k88
 | 89=>some k89
 | 90=>some k90
 | 93=>some k93
 | 94=>some k94
 | 95=>some k95
 | 99=>some k99
 | _=>none
noncomputable abbrev ev:=evCall Tryd.prog tyTab kt
theorem fn3:Tryd.prog.funcs[3]?=some Tryd.f3:=by kernel_rfl
theorem fn4:Tryd.prog.funcs[4]?=some Tryd.f4:=by kernel_rfl
theorem fn5:Tryd.prog.funcs[5]?=some Tryd.f5:=by kernel_rfl
theorem fn6:Tryd.prog.funcs[6]?=some Tryd.f6:=by kernel_rfl
theorem fn7:Tryd.prog.funcs[7]?=some Tryd.f7:=by kernel_rfl
theorem fn8:Tryd.prog.funcs[8]?=some Tryd.f8:=by kernel_rfl
theorem fn9:Tryd.prog.funcs[9]?=some Tryd.f9:=by kernel_rfl
theorem fn10:Tryd.prog.funcs[10]?=some Tryd.f10:=by kernel_rfl
theorem fn11:Tryd.prog.funcs[11]?=some Tryd.f11:=by kernel_rfl
theorem fn12:Tryd.prog.funcs[12]?=some Tryd.f12:=by kernel_rfl
theorem fn13:Tryd.prog.funcs[13]?=some Tryd.f13:=by kernel_rfl
theorem fn14:Tryd.prog.funcs[14]?=some Tryd.f14:=by kernel_rfl
theorem fn15:Tryd.prog.funcs[15]?=some Tryd.f15:=by kernel_rfl
theorem fn16:Tryd.prog.funcs[16]?=some Tryd.f16:=by kernel_rfl
theorem fn17:Tryd.prog.funcs[17]?=some Tryd.f17:=by kernel_rfl
theorem fn18:Tryd.prog.funcs[18]?=some Tryd.f18:=by kernel_rfl
theorem fn19:Tryd.prog.funcs[19]?=some Tryd.f19:=by kernel_rfl
theorem fn20:Tryd.prog.funcs[20]?=some Tryd.f20:=by kernel_rfl
theorem fn22:Tryd.prog.funcs[22]?=some Tryd.f22:=by kernel_rfl
theorem fn23:Tryd.prog.funcs[23]?=some Tryd.f23:=by kernel_rfl
theorem fn24:Tryd.prog.funcs[24]?=some Tryd.f24:=by kernel_rfl
theorem fn25:Tryd.prog.funcs[25]?=some Tryd.f25:=by kernel_rfl
theorem fn27:Tryd.prog.funcs[27]?=some Tryd.f27:=by kernel_rfl
theorem fn28:Tryd.prog.funcs[28]?=some Tryd.f28:=by kernel_rfl
theorem fn29:Tryd.prog.funcs[29]?=some Tryd.f29:=by kernel_rfl
theorem fn30:Tryd.prog.funcs[30]?=some Tryd.f30:=by kernel_rfl
theorem fn31:Tryd.prog.funcs[31]?=some Tryd.f31:=by kernel_rfl
theorem fn32:Tryd.prog.funcs[32]?=some Tryd.f32:=by kernel_rfl
theorem fn33:Tryd.prog.funcs[33]?=some Tryd.f33:=by kernel_rfl
theorem fn34:Tryd.prog.funcs[34]?=some Tryd.f34:=by kernel_rfl
theorem fn35:Tryd.prog.funcs[35]?=some Tryd.f35:=by kernel_rfl
theorem fn36:Tryd.prog.funcs[36]?=some Tryd.f36:=by kernel_rfl
theorem fn37:Tryd.prog.funcs[37]?=some Tryd.f37:=by kernel_rfl
theorem fn38:Tryd.prog.funcs[38]?=some Tryd.f38:=by kernel_rfl
theorem fn39:Tryd.prog.funcs[39]?=some Tryd.f39:=by kernel_rfl
theorem fn40:Tryd.prog.funcs[40]?=some Tryd.f40:=by kernel_rfl
theorem fn41:Tryd.prog.funcs[41]?=some Tryd.f41:=by kernel_rfl
theorem fn44:Tryd.prog.funcs[44]?=some Tryd.f44:=by kernel_rfl
theorem fn47:Tryd.prog.funcs[47]?=some Tryd.f47:=by kernel_rfl
theorem fn48:Tryd.prog.funcs[48]?=some Tryd.f48:=by kernel_rfl
theorem fn49:Tryd.prog.funcs[49]?=some Tryd.f49:=by kernel_rfl
theorem fn50:Tryd.prog.funcs[50]?=some Tryd.f50:=by kernel_rfl
theorem fn51:Tryd.prog.funcs[51]?=some Tryd.f51:=by kernel_rfl
theorem fn52:Tryd.prog.funcs[52]?=some Tryd.f52:=by kernel_rfl
theorem fn53:Tryd.prog.funcs[53]?=some Tryd.f53:=by kernel_rfl
theorem fn55:Tryd.prog.funcs[55]?=some Tryd.f55:=by kernel_rfl
theorem fn56:Tryd.prog.funcs[56]?=some Tryd.f56:=by kernel_rfl
theorem fn57:Tryd.prog.funcs[57]?=some Tryd.f57:=by kernel_rfl
theorem fn58:Tryd.prog.funcs[58]?=some Tryd.f58:=by kernel_rfl
theorem fn59:Tryd.prog.funcs[59]?=some Tryd.f59:=by kernel_rfl
theorem fn62:Tryd.prog.funcs[62]?=some Tryd.f62:=by kernel_rfl
theorem fn63:Tryd.prog.funcs[63]?=some Tryd.f63:=by kernel_rfl
theorem fn65:Tryd.prog.funcs[65]?=some Tryd.f65:=by kernel_rfl
theorem fn66:Tryd.prog.funcs[66]?=some Tryd.f66:=by kernel_rfl
theorem fn67:Tryd.prog.funcs[67]?=some Tryd.f67:=by kernel_rfl
theorem fn69:Tryd.prog.funcs[69]?=some Tryd.f69:=by kernel_rfl
theorem fn70:Tryd.prog.funcs[70]?=some Tryd.f70:=by kernel_rfl
theorem fn75:Tryd.prog.funcs[75]?=some Tryd.f75:=by kernel_rfl
theorem fn76:Tryd.prog.funcs[76]?=some Tryd.f76:=by kernel_rfl
theorem fn77:Tryd.prog.funcs[77]?=some Tryd.f77:=by kernel_rfl
theorem fn78:Tryd.prog.funcs[78]?=some Tryd.f78:=by kernel_rfl
theorem fn79:Tryd.prog.funcs[79]?=some Tryd.f79:=by kernel_rfl
theorem fn87:Tryd.prog.funcs[87]?=some Tryd.f87:=by kernel_rfl
theorem fn88:Tryd.prog.funcs[88]?=some Tryd.f88:=by kernel_rfl
theorem fn89:Tryd.prog.funcs[89]?=some Tryd.f89:=by kernel_rfl
theorem fn90:Tryd.prog.funcs[90]?=some Tryd.f90:=by kernel_rfl
theorem fn93:Tryd.prog.funcs[93]?=some Tryd.f93:=by kernel_rfl
theorem fn94:Tryd.prog.funcs[94]?=some Tryd.f94:=by kernel_rfl
theorem fn95:Tryd.prog.funcs[95]?=some Tryd.f95:=by kernel_rfl
theorem fn99:Tryd.prog.funcs[99]?=some Tryd.f99:=by kernel_rfl
def bodyOk (kp:Nat→Option (List Nat))(f:Func):Bool:=f.body.all (okCode (goodK kp))
theorem ok3:bodyOk k3 Tryd.f3=true:=by kernel_rfl
theorem ok4:bodyOk k4 Tryd.f4=true:=by kernel_rfl
theorem ok5:bodyOk k5 Tryd.f5=true:=by kernel_rfl
theorem ok6:bodyOk k6 Tryd.f6=true:=by kernel_rfl
theorem ok7:bodyOk k7 Tryd.f7=true:=by kernel_rfl
theorem ok8:bodyOk k8 Tryd.f8=true:=by kernel_rfl
theorem ok9:bodyOk k9 Tryd.f9=true:=by kernel_rfl
theorem ok10:bodyOk k10 Tryd.f10=true:=by kernel_rfl
theorem ok11:bodyOk k11 Tryd.f11=true:=by kernel_rfl
theorem ok12:bodyOk k12 Tryd.f12=true:=by kernel_rfl
theorem ok13:bodyOk k13 Tryd.f13=true:=by kernel_rfl
theorem ok14:bodyOk k14 Tryd.f14=true:=by kernel_rfl
theorem ok15:bodyOk k15 Tryd.f15=true:=by kernel_rfl
theorem ok16:bodyOk k16 Tryd.f16=true:=by kernel_rfl
theorem ok17:bodyOk k17 Tryd.f17=true:=by kernel_rfl
theorem ok18:bodyOk k18 Tryd.f18=true:=by kernel_rfl
theorem ok19:bodyOk k19 Tryd.f19=true:=by kernel_rfl
theorem ok20:bodyOk k20 Tryd.f20=true:=by kernel_rfl
theorem ok22:bodyOk k22 Tryd.f22=true:=by kernel_rfl
theorem ok23:bodyOk k23 Tryd.f23=true:=by kernel_rfl
theorem ok24:bodyOk k24 Tryd.f24=true:=by kernel_rfl
theorem ok25:bodyOk k25 Tryd.f25=true:=by kernel_rfl
theorem ok27:bodyOk k27 Tryd.f27=true:=by kernel_rfl
theorem ok28:bodyOk k28 Tryd.f28=true:=by kernel_rfl
theorem ok29:bodyOk k29 Tryd.f29=true:=by kernel_rfl
theorem ok30:bodyOk k30 Tryd.f30=true:=by kernel_rfl
theorem ok31:bodyOk k31 Tryd.f31=true:=by kernel_rfl
theorem ok32:bodyOk k32 Tryd.f32=true:=by kernel_rfl
theorem ok33:bodyOk k33 Tryd.f33=true:=by kernel_rfl
theorem ok34:bodyOk k34 Tryd.f34=true:=by kernel_rfl
theorem ok35:bodyOk k35 Tryd.f35=true:=by kernel_rfl
theorem ok36:bodyOk k36 Tryd.f36=true:=by kernel_rfl
theorem ok37:bodyOk k37 Tryd.f37=true:=by kernel_rfl
theorem ok38:bodyOk k38 Tryd.f38=true:=by kernel_rfl
theorem ok39:bodyOk k39 Tryd.f39=true:=by kernel_rfl
theorem ok40:bodyOk k40 Tryd.f40=true:=by kernel_rfl
theorem ok41:bodyOk k41 Tryd.f41=true:=by kernel_rfl
theorem ok44:bodyOk k44 Tryd.f44=true:=by kernel_rfl
theorem ok47:bodyOk k47 Tryd.f47=true:=by kernel_rfl
theorem ok48:bodyOk k48 Tryd.f48=true:=by kernel_rfl
theorem ok49:bodyOk k49 Tryd.f49=true:=by kernel_rfl
theorem ok50:bodyOk k50 Tryd.f50=true:=by kernel_rfl
theorem ok51:bodyOk k51 Tryd.f51=true:=by kernel_rfl
theorem ok52:bodyOk k52 Tryd.f52=true:=by kernel_rfl
theorem ok53:bodyOk k53 Tryd.f53=true:=by kernel_rfl
theorem ok55:bodyOk k55 Tryd.f55=true:=by kernel_rfl
theorem ok56:bodyOk k56 Tryd.f56=true:=by kernel_rfl
theorem ok57:bodyOk k57 Tryd.f57=true:=by kernel_rfl
theorem ok58:bodyOk k58 Tryd.f58=true:=by kernel_rfl
theorem ok59:bodyOk k59 Tryd.f59=true:=by kernel_rfl
theorem ok62:bodyOk k62 Tryd.f62=true:=by kernel_rfl
theorem ok63:bodyOk k63 Tryd.f63=true:=by kernel_rfl
theorem ok65:bodyOk k65 Tryd.f65=true:=by kernel_rfl
theorem ok66:bodyOk k66 Tryd.f66=true:=by kernel_rfl
theorem ok67:bodyOk k67 Tryd.f67=true:=by kernel_rfl
theorem ok69:bodyOk k69 Tryd.f69=true:=by kernel_rfl
theorem ok70:bodyOk k70 Tryd.f70=true:=by kernel_rfl
theorem ok75:bodyOk k75 Tryd.f75=true:=by kernel_rfl
theorem ok76:bodyOk k76 Tryd.f76=true:=by kernel_rfl
theorem ok77:bodyOk k77 Tryd.f77=true:=by kernel_rfl
theorem ok78:bodyOk k78 Tryd.f78=true:=by kernel_rfl
theorem ok79:bodyOk k79 Tryd.f79=true:=by kernel_rfl
theorem ok87:bodyOk k87 Tryd.f87=true:=by kernel_rfl
theorem ok88:bodyOk k88 Tryd.f88=true:=by kernel_rfl
theorem ok89:bodyOk k89 Tryd.f89=true:=by kernel_rfl
theorem ok90:bodyOk k90 Tryd.f90=true:=by kernel_rfl
theorem ok93:bodyOk k93 Tryd.f93=true:=by kernel_rfl
theorem ok94:bodyOk k94 Tryd.f94=true:=by kernel_rfl
theorem ok95:bodyOk k95 Tryd.f95=true:=by kernel_rfl
theorem ok99:bodyOk k99 Tryd.f99=true:=by kernel_rfl
theorem kOk:okProgram goodK Tryd.prog kt:=by
 intro f fn c kp hk hf hb;have gen:∀ (g:Func) (q:Nat→Option (List Nat)),bodyOk q g=true→g=fn→some q=some kp→okCode (goodK kp) c=true:=fun g q h e e2=>by
  subst e
  cases e2
  simp only[bodyOk,hb,Option.all_some] at h;exact h
 unfold kt at hk
 split at hk
 ·exact gen _ _ ok3 (by rw[fn3] at hf; injection hf) hk
 ·exact gen _ _ ok4 (by rw[fn4] at hf; injection hf) hk
 ·exact gen _ _ ok5 (by rw[fn5] at hf; injection hf) hk
 ·exact gen _ _ ok6 (by rw[fn6] at hf; injection hf) hk
 ·exact gen _ _ ok7 (by rw[fn7] at hf; injection hf) hk
 ·exact gen _ _ ok8 (by rw[fn8] at hf; injection hf) hk
 ·exact gen _ _ ok9 (by rw[fn9] at hf; injection hf) hk
 ·exact gen _ _ ok10 (by rw[fn10] at hf; injection hf) hk
 ·exact gen _ _ ok11 (by rw[fn11] at hf; injection hf) hk
 ·exact gen _ _ ok12 (by rw[fn12] at hf; injection hf) hk
 ·exact gen _ _ ok13 (by rw[fn13] at hf; injection hf) hk
 ·exact gen _ _ ok14 (by rw[fn14] at hf; injection hf) hk
 ·exact gen _ _ ok15 (by rw[fn15] at hf; injection hf) hk
 ·exact gen _ _ ok16 (by rw[fn16] at hf; injection hf) hk
 ·exact gen _ _ ok17 (by rw[fn17] at hf; injection hf) hk
 ·exact gen _ _ ok18 (by rw[fn18] at hf; injection hf) hk
 ·exact gen _ _ ok19 (by rw[fn19] at hf; injection hf) hk
 ·exact gen _ _ ok20 (by rw[fn20] at hf; injection hf) hk
 ·exact gen _ _ ok22 (by rw[fn22] at hf; injection hf) hk
 ·exact gen _ _ ok23 (by rw[fn23] at hf; injection hf) hk
 ·exact gen _ _ ok24 (by rw[fn24] at hf; injection hf) hk
 ·exact gen _ _ ok25 (by rw[fn25] at hf; injection hf) hk
 ·exact gen _ _ ok27 (by rw[fn27] at hf; injection hf) hk
 ·exact gen _ _ ok28 (by rw[fn28] at hf; injection hf) hk
 ·exact gen _ _ ok29 (by rw[fn29] at hf; injection hf) hk
 ·exact gen _ _ ok30 (by rw[fn30] at hf; injection hf) hk
 ·exact gen _ _ ok31 (by rw[fn31] at hf; injection hf) hk
 ·exact gen _ _ ok32 (by rw[fn32] at hf; injection hf) hk
 ·exact gen _ _ ok33 (by rw[fn33] at hf; injection hf) hk
 ·exact gen _ _ ok34 (by rw[fn34] at hf; injection hf) hk
 ·exact gen _ _ ok35 (by rw[fn35] at hf; injection hf) hk
 ·exact gen _ _ ok36 (by rw[fn36] at hf; injection hf) hk
 ·exact gen _ _ ok37 (by rw[fn37] at hf; injection hf) hk
 ·exact gen _ _ ok38 (by rw[fn38] at hf; injection hf) hk
 ·exact gen _ _ ok39 (by rw[fn39] at hf; injection hf) hk
 ·exact gen _ _ ok40 (by rw[fn40] at hf; injection hf) hk
 ·exact gen _ _ ok41 (by rw[fn41] at hf; injection hf) hk
 ·exact gen _ _ ok44 (by rw[fn44] at hf; injection hf) hk
 ·exact gen _ _ ok47 (by rw[fn47] at hf; injection hf) hk
 ·exact gen _ _ ok48 (by rw[fn48] at hf; injection hf) hk
 ·exact gen _ _ ok49 (by rw[fn49] at hf; injection hf) hk
 ·exact gen _ _ ok50 (by rw[fn50] at hf; injection hf) hk
 ·exact gen _ _ ok51 (by rw[fn51] at hf; injection hf) hk
 ·exact gen _ _ ok52 (by rw[fn52] at hf; injection hf) hk
 ·exact gen _ _ ok53 (by rw[fn53] at hf; injection hf) hk
 ·exact gen _ _ ok55 (by rw[fn55] at hf; injection hf) hk
 ·exact gen _ _ ok56 (by rw[fn56] at hf; injection hf) hk
 ·exact gen _ _ ok57 (by rw[fn57] at hf; injection hf) hk
 ·exact gen _ _ ok58 (by rw[fn58] at hf; injection hf) hk
 ·exact gen _ _ ok59 (by rw[fn59] at hf; injection hf) hk
 ·exact gen _ _ ok62 (by rw[fn62] at hf; injection hf) hk
 ·exact gen _ _ ok63 (by rw[fn63] at hf; injection hf) hk
 ·exact gen _ _ ok65 (by rw[fn65] at hf; injection hf) hk
 ·exact gen _ _ ok66 (by rw[fn66] at hf; injection hf) hk
 ·exact gen _ _ ok67 (by rw[fn67] at hf; injection hf) hk
 ·exact gen _ _ ok69 (by rw[fn69] at hf; injection hf) hk
 ·exact gen _ _ ok70 (by rw[fn70] at hf; injection hf) hk
 ·exact gen _ _ ok75 (by rw[fn75] at hf; injection hf) hk
 ·exact gen _ _ ok76 (by rw[fn76] at hf; injection hf) hk
 ·exact gen _ _ ok77 (by rw[fn77] at hf; injection hf) hk
 ·exact gen _ _ ok78 (by rw[fn78] at hf; injection hf) hk
 ·exact gen _ _ ok79 (by rw[fn79] at hf; injection hf) hk
 ·exact gen _ _ ok87 (by rw[fn87] at hf; injection hf) hk
 ·exact gen _ _ ok88 (by rw[fn88] at hf; injection hf) hk
 ·exact gen _ _ ok89 (by rw[fn89] at hf; injection hf) hk
 ·exact gen _ _ ok90 (by rw[fn90] at hf; injection hf) hk
 ·exact gen _ _ ok93 (by rw[fn93] at hf; injection hf) hk
 ·exact gen _ _ ok94 (by rw[fn94] at hf; injection hf) hk
 ·exact gen _ _ ok95 (by rw[fn95] at hf; injection hf) hk
 ·exact gen _ _ ok99 (by rw[fn99] at hf; injection hf) hk
 ·cases hk
end Go.Proofs.YtadllpehekphmaaDoor

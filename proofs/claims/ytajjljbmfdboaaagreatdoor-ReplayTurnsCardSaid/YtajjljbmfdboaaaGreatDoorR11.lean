/- A part of the proof. -/
import Derived.Test.YtajjljbmfdboaaaGreatDoorR6
import Derived.Test.YtajjljbmfdboaaaGreatDoorR9
import Derived.Test.YtajjljbmfdboaaaGreatDoorR10
import Derived.KernelRfl
import Derived.Test.YtajjljbmfdboaaaGreatDoorR8
import Derived.Lib.ItoaNum
import Derived.Lib.Bytes
namespace Go.Proofs.YtajjljbmfdboaaaGreatDoor
open Go Go.Ab
section
set_option maxRecDepth 100000
noncomputable def K:FuncId->List Value->Option jI:=iq K0 47 (.bool true)
abbrev n_:FT:=⟨[],[],false,0,[]⟩
def tb0:List FT:=[n_,n_,n_,n_,n_,n_,n_,n_,n_,n_,n_,n_,n_,⟨[(2,[0,1,2]),(14,[1,3,5]),(124,[1,3,5,7]),(2000,[1,3,5,7,9]),(4004,[1,3,5,7,9]),(126,[3,5,7]),(510,[3,5,10])],[],false,16424,[]⟩,⟨[(2,[0,1,2]),(14,[1,2,3]),(124,[1,2,3,7]),(2000,[1,2,3,7,9]),(4004,[1,2,3,7,9]),(126,[2,3,7]),(510,[2,3,10]),(32766,[3,10,12,13,14])],[],false,352264,[]⟩,⟨[(2,[0,1]),(14,[0,1]),(488,[0,1,6,13,14,15]),(7832,[0,1,6,13,14,15]),(31334,[0,1,6,7,8,13,14,15]),(1959,[0,1,6,13,14,15])],[],false,41280,[]⟩]
def tb1:List FT:=[n_,⟨[(2,[0,11]),(30,[2,3,11]),(500,[4,11])],[(250,[4,11])],true,48,[]⟩,n_,n_,⟨[(2,[0,1,15]),(28,[2,3,4,15]),(116,[2,3,4,15])],[(58,[2,3,4,15])],true,84,[]⟩,n_,n_,n_,n_,n_,n_,n_,n_,n_,⟨[(2,[0]),(208,[1,3]),(840,[1,3]),(211,[1,3])],[],false,2,[]⟩,⟨[(2,[0]),(14,[1]),(488,[1,6,39,40]),(7832,[1,6,39,40]),(62,[1,6]),(62670,[1,6,7,8,39,40]),(508,[1,6]),(250686,[1,6,8,10,39,40]),(4072,[1,6,128,129,130]),(1002750,[1,6,8,10,11,39,40]),(65176,[1,6,128,129,130]),(1020,[1,6]),(16295,[1,6,128,129,130]),(2044,[1,6])],[],false,1701411834604692317316873038258352685058,[]⟩]
def tb2:List FT:=[⟨[(2,[0,1,2,3,4]),(28,[1,2,3,4,5]),(60,[1,2,3,4,5]),(488,[1,2,3,4,5,56,57,58]),(7832,[1,2,3,4,5,56,57,58]),(124,[1,2,3,4,5]),(1959,[1,2,3,4,5,56,57,58]),(126,[1,2,3,4,5]),(1020,[1,2,3,4,5,17]),(8168,[1,2,3,5,17,87,88,89]),(130712,[1,2,3,5,17,87,88,89]),(1022,[1,2,3,5,17]),(32679,[1,2,3,5,17,87,88,89]),(32744,[1,2,22,115,116]),(523928,[1,2,22,115,116])],[],false,83076750510269766970138583269113888,[(25,[(0,10),(1,10),(2,10),(6,5)])]⟩,⟨[(2,[0,1]),(28,[0,1,4])],[],false,16,[]⟩,n_,n_,⟨[(2,[0,1,2]),(28,[0,1,2]),(30,[0,1,2])],[],false,0,[]⟩,⟨[(2,[0]),(30,[0,2,4]),(4052,[0,2,4,6,7]),(4054,[0,2,4,6,7,26]),(16220,[0,2,4,6,7]),(16222,[0,2,4,6,7,26]),(254,[0,2,6,7]),(64894,[0,2,4,6,7,26]),(259580,[0,2,4,6,7]),(259582,[0,2,4,6,7,26]),(1038326,[0,2,4,6,7]),(1038327,[0,2,6,7]),(1038332,[0,2,4,6]),(1038334,[0,2,4,6,7,26]),(4153340,[0,2,4,6,7]),(16613366,[0,2,4,6])],[],false,67108948,[]⟩,⟨[(2,[0,1,2]),(14,[0,1,2,6]),(124,[0,1,2,6,8]),(126,[0,1,2,6,8]),(8164,[0,2,6,8,10]),(8166,[0,1,2,6,8,10]),(1022,[0,6,10]),(32670,[0,1,6,8,10]),(65342,[0,6,8,10]),(130686,[0,1,6,8,10])],[],false,1344,[(9,[(8,12)])]⟩,⟨[(2,[0])],[],false,4,[]⟩,n_,⟨[(2,[0]),(30,[0,2,4]),(16002,[2,6]),(256004,[0,2,4,6,31]),(2001,[0,2,4,6]),(256006,[0,2,4,6,31]),(2004,[0,2,4,6])],[],false,2147483732,[]⟩,⟨[(2,[0])],[],false,20,[]⟩,n_,n_,n_,n_,⟨[(2,[])],[],false,42,[]⟩]
def tb3:List FT:=[⟨[(2,[0,1]),(30,[1,6])],[],false,0,[]⟩,⟨[(2,[0,1]),(30,[1,2,4,6])],[],false,84,[]⟩,⟨[(2,[0])],[],false,0,[]⟩,⟨[(2,[0,1]),(28,[0,1]),(464,[0,1,5]),(1864,[0,1,5]),(467,[0,1,5])],[],false,0,[]⟩,⟨[(2,[0,1]),(28,[0,1]),(464,[0,1,5]),(1864,[0,1,5]),(467,[0,1,5])],[],false,0,[]⟩,⟨[(2,[])],[],false,1,[]⟩,n_,n_,n_,⟨[(2,[0,1,20]),(436,[2,5,20])],[(218,[2,5,20])],true,36,[]⟩,⟨[(2,[0])],[],false,0,[]⟩,⟨[(2,[0,1])],[],false,16,[]⟩,n_,n_,n_,⟨[(2,[0])],[],false,2,[]⟩]
def tb4:List FT:=[n_,n_,n_,n_,n_,n_,n_,⟨[(2,[0]),(58,[0,3])],[],false,8,[]⟩,⟨[(2,[0,1]),(28,[0,1,4])],[],false,16,[]⟩,n_,n_,n_,⟨[(2,[0]),(14,[0]),(488,[3,27,28]),(7832,[3,27,28])],[],false,268435456,[(3,[(5,4),(5,17),(6,4),(6,17),(7,4),(7,17),(8,4),(8,17),(9,4),(10,4),(11,4),(12,4)]),(7,[(0,16),(1,16),(2,16),(3,16),(4,16)])]⟩,⟨[(2,[0,26]),(14,[1,2,26]),(244,[1,3,26])],[(122,[1,3,26])],true,10,[(3,[(5,4),(6,4),(7,4),(8,4),(9,4),(10,4),(11,4),(12,4)])]⟩,⟨[(2,[0]),(14,[0]),(488,[3,19,20]),(7832,[3,19,20]),(125336,[3,4,19,20,24,25]),(2005400,[3,4,19,20,24,25]),(1959,[3,19,20])],[],false,34603040,[(10,[(0,9),(1,9),(2,9),(5,4),(6,4),(7,4)])]⟩,n_]
def tb5:List FT:=[⟨[(2,[0]),(14,[0])],[],false,8,[]⟩,⟨[(2,[0]),(14,[0])],[],false,8,[]⟩,n_,⟨[(2,[0,1]),(28,[1,2]),(30,[1,2])],[],false,4,[]⟩,⟨[(2,[0,1])],[],false,0,[]⟩,⟨[(2,[0]),(14,[1]),(62,[1,5]),(2024,[7,33,34]),(32408,[7,33,34])],[],false,17179869186,[(7,[(0,8),(1,8)])]⟩,⟨[(2,[0,1,2]),(30,[2,7])],[],false,0,[]⟩,⟨[(2,[0,1]),(28,[0,1]),(232,[0,1,30,31,32]),(3736,[0,1,30,31,32]),(30,[0,1]),(935,[0,1,30,31,32]),(126,[0,1,8]),(4072,[10,57,58,59]),(65176,[10,57,58,59]),(16295,[10,57,58,59])],[],false,720575945747988480,[]⟩,⟨[(2,[0]),(14,[1]),(488,[1,5,19,20]),(7832,[1,5,19,20]),(125336,[1,5,6,19,20,23]),(2005400,[1,5,6,19,20,23]),(1959,[1,5,19,20]),(8021607,[1,5,6,7,8,19,20,23])],[],false,9437186,[]⟩,⟨[(2,[0]),(1768,[3,4,22,23]),(28312,[3,4,22,23]),(226508,[]),(7079,[3,4,22,23])],[],false,8388618,[]⟩,⟨[(2,[0])],[],false,0,[]⟩,⟨[(2,[0]),(28,[0]),(232,[0,10,11,12]),(3736,[0,10,11,12]),(935,[0,10,11,12])],[],false,5152,[]⟩,⟨[(2,[0,1,2]),(104,[0,1,9,10,11]),(1688,[0,1,9,10,11]),(423,[0,1,9,10,11])],[],false,2560,[]⟩,⟨[(2,[0]),(14,[1]),(488,[1,5,20,21]),(7832,[1,5,20,21])],[],false,2097154,[]⟩,⟨[(2,[0])],[],false,0,[]⟩,⟨[(2,[0])],[],false,0,[]⟩]
def tb6:List FT:=[⟨[(2,[0,1])],[],false,0,[]⟩,n_,⟨[(2,[0,1])],[],false,0,[]⟩,⟨[(2,[0,1])],[],false,16,[]⟩,⟨[(2,[0,1])],[],false,0,[]⟩,n_,n_,⟨[(2,[0,1]),(872,[1,5,9,10]),(13976,[1,5,9,10]),(55911,[1,5,7,9,10])],[],false,1152,[]⟩,⟨[(2,[0])],[],false,2,[]⟩,⟨[(2,[0,1]),(872,[0,7,8,14,15,16]),(13976,[0,7,8,14,15,16]),(1789156,[0,7]),(1789158,[0,7,8,10,11,12,13,14,15,16]),(7156636,[0,7]),(223646,[7,8,11,14,15,16])],[],false,87040,[]⟩,⟨[(2,[0,1,2])],[],false,16,[(1,[(0,12),(0,18),(0,20),(7,6),(8,6),(9,6),(10,6),(11,6),(13,6),(13,12),(14,6),(14,12),(15,6),(15,12),(16,6),(16,12),(17,6),(17,12)])]⟩,⟨[(2,[0,1]),(872,[1,5,9,10]),(13976,[1,5,9,10]),(55911,[1,5,7,9,10])],[],false,1024,[]⟩,⟨[(2,[0,1]),(28,[0,1])],[],false,0,[]⟩,⟨[(2,[0,1])],[],false,0,[]⟩,⟨[(2,[0,1]),(14,[0,3]),(124,[0,3,5]),(252,[0,3,5]),(2028,[0,6]),(508,[0,3,5]),(510,[0,3,5])],[],false,1352,[(10,[(0,10)])]⟩,⟨[(2,[0,1]),(62,[0,5,6]),(508,[0,5,8,9]),(510,[0,5,9])],[],false,72,[]⟩]
def tb7:List FT:=[⟨[(2,[0,1]),(124,[0,5,6]),(126,[0,5])],[],false,0,[]⟩,⟨[(2,[0,1]),(28,[0,3]),(30,[0,3]),(252,[0,5]),(506,[0,5])],[],false,40,[(5,[(9,13)])]⟩,n_,⟨[(2,[0,1,2])],[],false,0,[]⟩,n_,n_,⟨[(2,[0])],[],false,0,[]⟩,⟨[(2,[0,1])],[],false,0,[]⟩,⟨[(2,[0,1])],[],false,0,[]⟩,⟨[(2,[0,1]),(14,[0,1]),(250,[5,6]),(252,[5,6]),(2024,[6,36,37,38]),(32408,[6,36,37,38]),(129638,[6,36,37,38]),(8103,[6,36,37,38])],[],false,343597383936,[]⟩,⟨[(2,[0])],[],false,0,[]⟩,⟨[(2,[0])],[],false,0,[]⟩,n_,⟨[(2,[0,1])],[],false,0,[]⟩,n_,n_]
def tb8:List FT:=[n_,n_,n_,⟨[(2,[0])],[],false,0,[]⟩,⟨[(2,[0,1]),(24,[0,5,6,7]),(408,[0,5,6,7]),(103,[0,5,6,7])],[],false,176,[]⟩,n_,n_,n_,n_,⟨[(2,[0]),(14,[0]),(488,[3,22,23]),(7832,[3,22,23])],[],false,8388608,[(3,[(0,12),(1,12),(2,12),(3,12)]),(7,[(0,16),(1,16),(2,16),(3,16),(4,16)])]⟩,⟨[(2,[0])],[],false,0,[]⟩,⟨[(2,[0])],[],false,0,[]⟩,⟨[(2,[0])],[],false,0,[]⟩,⟨[(2,[0])],[],false,0,[(3,[(0,12),(1,12),(2,12),(3,12)])]⟩,⟨[(2,[0]),(14,[0]),(488,[3,23,24,25]),(7832,[3,23,24,25])],[],false,41943040,[(7,[(0,8),(1,8),(2,8),(3,8),(4,8)])]⟩,⟨[(2,[0,1])],[],false,0,[]⟩]
def tb9:List FT:=[⟨[(2,[0,1]),(14,[0,1]),(62,[0,6,7])],[],false,0,[]⟩,⟨[(2,[0])],[],false,0,[]⟩,⟨[(2,[0,1,2]),(28,[0,1,5]),(30,[0,1,5])],[],false,32,[]⟩,⟨[(2,[0])],[],false,0,[]⟩,⟨[(2,[0,1,14,15]),(26,[2,3,4,14,15]),(1768,[3,5,14,15])],[(442,[3,5,14,15])],true,36,[]⟩,n_,⟨[(2,[0]),(14,[0]),(488,[3,32,33]),(7832,[3,32,33])],[],false,8589934592,[(3,[(0,13),(0,18),(0,22),(1,13),(1,18),(1,22),(2,13),(2,18),(2,22),(3,13),(3,18),(3,22),(9,8),(10,8),(11,8),(12,8),(14,8),(14,13),(15,8),(15,13),(16,8),(16,13),(17,8),(17,13)]),(7,[(0,16),(1,16),(2,16),(3,16),(4,16)])]⟩,⟨[(2,[0,1,2]),(28,[0,1,2,6]),(30,[0,1,2,6]),(126,[0,1,2,6,8]),(32724,[6,8,9,10,11]),(32726,[0,2,6,8,9,10,11,70]),(130908,[6,8,9,10,11]),(261820,[0,2,6,8,9,10,11,70]),(130911,[0,2,6,8,9,10,11,70,114]),(1047286,[0,2,6,8,9,10,11,70]),(523644,[0,6,8,9,10,11]),(523646,[0,2,6,8,9,10,11,70,114]),(2094575,[0,2,6,8,9,10,11,70]),(2094588,[6,8,9,10,11]),(2094590,[0,2,6,8,9,10,11,70,114]),(8378358,[6,8,9,10,11]),(8378359,[6,8,10,11]),(8378364,[0,2,6,8,9,10,11]),(8378366,[0,2,6,8,9,10,11,70,114]),(33513468,[6,8,9,10]),(33513470,[0,2,6,8,9,10,11,70,114]),(134053884,[0,2,6,8,9,10,11,70,114]),(2046,[0,2,6,8,9,10,11,70,114]),(536215542,[6,8,9,10])],[],false,1180591620717411305024,[(29,[(8,19),(9,19),(10,19),(11,19),(12,19),(13,19),(14,19),(15,19)])]⟩,⟨[(2,[0,1])],[],false,0,[]⟩,⟨[(2,[0,1,2]),(30,[0,5,7]),(1000,[0,5,7,10,34,35]),(16024,[0,5,7,10,34,35]),(252,[0,7,10]),(254,[0,7])],[],false,34359738400,[]⟩,⟨[(2,[0,1,2]),(30,[0,1,5,7,8]),(126,[0,1,5,7,8,10]),(1020,[0,1,5,7,8,10,11]),(16342,[0,1,5,7,8,10,69]),(1022,[0,1,5,7,8,10]),(4094,[0,1,5,7,8,12]),(65524,[0,1,5,7,8,12]),(32764,[0,1,5,7,8,12,13]),(131060,[0,1,5,7,8,12,13])],[],false,590295810358705651744,[]⟩,⟨[(2,[0,1,2,3]),(14,[0,1,2,3,8])],[],false,256,[]⟩,⟨[(2,[0,1,48]),(53,[2,3,27,28,48]),(422,[2,3,27,48]),(212,[2,3]),(428,[2,3,27,28]),(1694,[2,3,27,48]),(215,[2,3,27,28,48]),(1718,[2,3,27,28]),(6782,[2,3,27,48]),(860,[2,3]),(862,[2,3,27]),(6878,[2,3,27,28]),(13567,[2,3,27]),(3452,[2,3]),(3454,[2,3,27]),(13759,[2,3,27]),(13820,[2,3]),(13822,[2,3,27]),(442298,[2,3,15,16,18,19]),(55292,[2,3]),(55294,[2,3,27]),(221180,[2,3])],[],false,160466060,[]⟩,⟨[(2,[0,1]),(28,[0,1]),(232,[0,1,20,21,22]),(3736,[0,1,20,21,22]),(30,[0,1]),(935,[0,1,20,21,22]),(1000,[0,1,8,36,37,38]),(16024,[0,1,8,36,37,38]),(252,[0,1]),(128206,[0,1,8,10,11,36,37,38]),(2024,[0,73,74,75]),(4007,[0,1,8,36,37,38]),(32408,[0,73,74,75]),(259278,[0,14,15,73,74,75]),(8103,[0,73,74,75])],[],false,47223678339838936892736,[(18,[(0,12),(1,12),(2,12),(3,12),(4,12),(5,12)]),(27,[(5,4)])]⟩,⟨[(2,[0,1,2]),(28,[0,1,2]),(60,[0,1,2]),(62,[0,1,2]),(508,[0,1,2,8]),(510,[0,1,2,8]),(130984,[0,1,8,9]),(130988,[0,1,2,8,9,51]),(261970,[0,1,8,9]),(130986,[1,8,9]),(65495,[0,1,2,8,9,82]),(261979,[0,1,2,8,9,51]),(261980,[0,1,2,9]),(8188,[0,1,2,8,9,82]),(8190,[1,8,9])],[],false,2251799813685760,[(28,[(1,8),(2,8)])]⟩,⟨[(2,[0,1]),(28,[0,1,4]),(30,[0,1,4]),(252,[0,1,4,8]),(254,[0,1,4,8])],[],false,272,[]⟩]
def aI9:List FT:=[⟨[(2,[0,1,26]),(28,[1,2,4,26]),(60,[1,2,4,26]),(244,[2,4,26])],[(122,[2,4,26])],true,20,[]⟩,⟨[(2,[0,1,2,3]),(30,[0,9])],[],false,512,[(4,[(0,10)])]⟩,⟨[(2,[0,1]),(24,[0,5,6,7]),(408,[0,5,6,7]),(103,[0,5,6,7])],[],false,176,[]⟩,n_,n_,n_,⟨[(2,[0,1]),(24,[0,5,6,7]),(408,[0,5,6,7]),(103,[0,5,6,7])],[],false,160,[]⟩,⟨[(4,[0,1,2]),(6,[0,2]),(56,[0,2,18]),(920,[0,2,18]),(231,[0,2,18])],[],false,262144,[]⟩,⟨[(2,[0])],[],false,0,[]⟩,⟨[(2,[0])],[],false,0,[]⟩,n_,n_,n_,n_,⟨[(2,[0])],[],false,0,[]⟩,⟨[(2,[0])],[],false,0,[]⟩]
def aHf:List FT:=[n_,⟨[(2,[0,1]),(14,[0,1])],[],false,0,[]⟩,⟨[(2,[0])],[],false,0,[]⟩,⟨[(2,[0])],[],false,0,[]⟩,⟨[(2,[0])],[],false,0,[]⟩,⟨[(2,[0])],[],false,0,[]⟩,⟨[(2,[0,1])],[],false,0,[]⟩,⟨[(2,[0])],[],false,0,[]⟩,⟨[(2,[0])],[],false,0,[]⟩,⟨[(2,[0])],[],false,0,[]⟩,⟨[(2,[0,1,2]),(214,[1,2,7]),(862,[1,2,7]),(3454,[1,2,7]),(13822,[1,2,7])],[],false,128,[]⟩,⟨[(2,[0])],[],false,0,[]⟩,⟨[(2,[0,1,2]),(437,[0,1,5,8,22]),(3494,[0,1,5,8,21]),(3496,[0,1,5,8]),(6991,[0,1,5,8,21]),(3498,[0,1,5,8]),(13998,[0,1,5,8,9]),(111994,[0,1,5,8,9,11]),(111996,[1,5,9,11]),(223994,[1,5]),(223995,[1,5,9,11])],[],false,2097184,[]⟩,⟨[(2,[0,1,2,3,4,5]),(28,[0,1,2,3,4,5]),(30,[0,1,2,3,4]),(126,[0,3,13,14]),(1018,[0,3])],[],false,0,[]⟩,⟨[(2,[0,1,48]),(28,[2,3,4,5,48]),(30,[2,3,4,5,48]),(252,[2,3,4,5,6,48]),(508,[2,3,4,5,6,48]),(2036,[2,3,4,5,48]),(4092,[2,3,4,5,6,9,10]),(4094,[2,3,4,5,9,10]),(131048,[2,3,4,5,12,98,99]),(2096792,[2,3,4,5,12,98,99]),(16382,[2,3,4,5,12])],[(1018,[2,3,4,5,48])],true,633825300114114700748351606908,[(5,[(9,13)])]⟩,⟨[(2,[0,1])],[],false,0,[]⟩]
def aHe:List FT:=[⟨[(2,[0,1,2]),(28,[0,1,2]),(30,[0,1,2]),(998,[0,1,8])],[],false,0,[]⟩,⟨[(2,[0,1,2]),(124,[0,1,7,8]),(126,[0,1,7])],[],false,0,[]⟩,⟨[(2,[0,1,2,18,19]),(872,[5,7,18,19])],[(218,[5,7,18,19])],true,128,[]⟩,⟨[(2,[0,1,2,3]),(14,[0,1,2,3])],[],false,512,[]⟩,⟨[(2,[0,1,2,3]),(124,[0,1,9,10]),(126,[0,1,9])],[],false,0,[]⟩,⟨[(2,[0,1,2,3]),(14,[0,1,2])],[],false,2048,[]⟩,⟨[(2,[0,1,2,3,4]),(14,[0,1,2,4]),(124,[0,1,2,4,12]),(126,[0,1,2,4,12])],[],false,4096,[]⟩,⟨[(2,[0,1]),(52,[0,1,4]),(54,[0,1,4]),(442,[0,4,6]),(222,[0,4,6]),(28648,[0,4,6,7,8,40,41,42]),(458392,[0,4,6,7,8,40,41,42]),(3582,[0,4,7,8]),(7334292,[0,4,6,7,8,10,40,41,42]),(916787,[0,4,6,7,8,10,40,41,42])],[],false,5497558140048,[]⟩,⟨[(2,[0,1]),(28,[0,3]),(117,[0,3,11]),(934,[0,3,10]),(60,[0,3,11]),(3742,[0,3,10]),(62,[0,3]),(14974,[0,3,10]),(8104,[3,6]),(4054,[0,3,6,45]),(29951,[0,3,10]),(4053,[6]),(32440,[0,3,6]),(8111,[3,6])],[],false,35184372089864,[(14,[(0,10)])]⟩,n_,⟨[(2,[0,1]),(28,[0,3]),(232,[0,3,10,11,12]),(3736,[0,3,10,11,12]),(935,[0,3,10,11,12]),(29900,[0,3,7])],[],false,5256,[]⟩,n_,⟨[(2,[0,1]),(14,[0,1])],[],false,0,[]⟩,n_,⟨[(2,[0,1,2]),(28,[0,1,2]),(60,[0,1,2]),(62,[0,1,2]),(508,[0,1,2,9]),(2036,[0,9]),(510,[0,1,2,9]),(4092,[0,6,7,9,10]),(8186,[0,9,10]),(8188,[0,6,7,10]),(32756,[0,6]),(8190,[0,10])],[],false,1024,[(14,[(15,22),(16,22)])]⟩,⟨[(1,[0,1,2])],[],false,0,[]⟩]
def aHm:List FT:=[⟨[(2,[0,1]),(28,[0,3]),(30,[0,3]),(1018,[0,7])],[],false,72,[]⟩,⟨[(1,[0,1,2])],[],false,0,[]⟩,⟨[(2,[0,1,2]),(28,[0,1,2]),(30,[0,1,2]),(252,[0,1,2,10]),(254,[0,1,2,10]),(4090,[0,1,10,11]),(2046,[0,1,10,11])],[],false,1024,[]⟩,n_,⟨[(2,[0,1,11]),(28,[2,11])],[(14,[2,11])],true,4,[]⟩,⟨[(2,[0,1,22]),(52,[2,3,4,22]),(54,[2,3,4,22]),(3572,[2,3,5,6,22])],[(1786,[2,3,5,6,22])],true,108,[]⟩,⟨[(2,[0])],[],false,0,[]⟩,⟨[(2,[0,1,2])],[],false,0,[]⟩,⟨[(2,[0,1]),(28,[0,1]),(30,[0,1])],[],false,0,[]⟩,⟨[(2,[0,1,2]),(30,[5,7,8])],[],false,1048576,[]⟩,⟨[(2,[0,1])],[],false,0,[]⟩,n_,⟨[(2,[0,1,2,3]),(488,[0,1,7,9]),(124,[0,1,7,9]),(250,[0,1,9]),(252,[0,1,9])],[],false,128,[(2,[(1,10),(2,10),(2,13),(3,10),(4,10),(4,13)])]⟩,⟨[(2,[0,1,20]),(872,[0,1,5,11,12,20]),(13976,[0,1,5,11,12,20]),(3495,[0,1,5,6,11,12,20]),(447276,[0,1,5,6,7,11,12]),(223639,[0,1,5,6,11,12,20]),(894555,[0,1,5,6,11,12]),(894556,[6])],[],false,4096,[]⟩,⟨[(2,[0,1,2,3,12]),(116,[4,5,6,9,12])],[(58,[4,5,6,9,12])],true,512,[]⟩,⟨[(2,[0,1])],[],false,0,[]⟩]
def aHx:List FT:=[n_,⟨[(2,[0,1,7]),(52,[2,7])],[(26,[2,7])],true,4,[]⟩,⟨[(2,[0,1,2,3]),(112,[0,1,2,3,8,9]),(908,[0,1,2,3,8,9,10]),(1820,[0,1,2,3,8,9,10]),(7284,[0,1,2,3,8,9,10]),(1822,[0,1,2,3,8,9,10]),(29172,[0,1,2,3,8,9,10,11]),(14588,[0,1,2,3,8,9,10,11,12]),(58356,[0,1,2,3,8,9,10,11]),(29180,[0,1,2,3,8,9,10,11]),(116724,[0,1,2,3,8,9,11]),(29182,[0,1,2,3,10,11]),(1867772,[0,1,2,3,9,14,16,18]),(1867774,[0,1,2,3,9,14,17,18])],[],false,0,[]⟩,n_,n_,n_,n_,n_,n_,n_,n_,n_,⟨[(2,[0]),(52,[0]),(28,[0,2]),(116,[0,2])],[],false,0,[]⟩,⟨[(2,[0]),(52,[0]),(28,[0,2]),(116,[0,2]),(60,[0,2]),(244,[0,2])],[],false,0,[]⟩,⟨[(2,[0,1])],[],false,4,[]⟩,⟨[(2,[0,1]),(24,[0,1,11,12]),(408,[0,1,11,12]),(103,[0,1,11,12])],[],false,4096,[]⟩]
def aHg:List FT:=[⟨[(2,[0,1,2]),(30,[0,1,7])],[],false,0,[]⟩,⟨[(2,[0,1,2,3]),(28,[0,1,2,3]),(1872,[1,2,3]),(470,[1,2,3,21]),(7494,[2,3]),(7536,[1,2]),(1886,[1,2,3,21]),(29982,[3]),(30150,[1,2]),(30192,[1,2,3]),(7550,[1,2,21]),(120774,[2,3]),(120816,[1,2]),(483270,[1,2])],[],false,2097152,[]⟩,⟨[(2,[0,1])],[],false,0,[]⟩,⟨[(2,[0,1])],[],false,0,[]⟩,⟨[(2,[0,1]),(28,[0,1]),(60,[0,1]),(124,[0,1]),(126,[0,1]),(510,[0,1,6])],[],false,0,[]⟩,⟨[(2,[0,1]),(60,[4,6,7])],[],false,16,[]⟩,⟨[(2,[0,1])],[],false,4,[]⟩,⟨[(2,[0,1,2,3]),(102,[0,1,2,3]),(414,[0,1,2,3]),(1662,[0,1,2,3]),(28,[0,1,2,3]),(30,[0,1,2,3]),(508,[0,1,2,3,12,13,14]),(4072,[0,1,2,3,12,13]),(510,[0,1,2,3,12]),(4074,[0,1,2,3,12,13]),(8186,[0,1,2,12]),(16302,[0,1,2,3,12,13,16])],[],false,66560,[(23,[(0,15),(1,15),(2,15),(3,15),(4,15),(5,15),(6,15),(7,15),(8,15),(9,15)])]⟩,⟨[(2,[0,1,2,3,4]),(102,[0,1,2,3,4]),(414,[0,1,3,4])],[],false,0,[]⟩,⟨[(2,[0,1])],[],false,16,[(4,[(0,5)])]⟩,⟨[(2,[0]),(28,[0])],[],false,0,[]⟩,⟨[(2,[0,1,2]),(60,[0,1,5,7,8]),(122,[0,1,5,7,8]),(124,[0,1,5,7]),(126,[1,5,7])],[],false,0,[(8,[(0,10)])]⟩,⟨[(2,[0])],[],false,0,[]⟩,⟨[(2,[0,1]),(7684,[0,3,5]),(30722,[0,3,5]),(30742,[0,3,5]),(124,[0,3,5]),(962,[0,3,5]),(484,[0,3,5]),(252,[0,3,5]),(970,[0,3,5]),(1012,[5])],[],false,8,[(9,[(0,9),(1,9),(2,9),(6,5),(7,5)]),(11,[(1,9),(2,9),(3,9)])]⟩,n_,⟨[(2,[0,1])],[],false,0,[]⟩]
def aHu:List FT:=[⟨[(2,[0]),(26,[0]),(14288,[0,3,4,5,6]),(57160,[0,3,4,5,6]),(1788,[0,3,4]),(1829160,[0,3,4,5,6,7,43,44,45]),(14312,[3,4,68,69,70]),(29266584,[0,3,4,5,6,7,43,44,45]),(114323,[0,3,4,5,6,7]),(229016,[3,4,68,69,70]),(234132684,[0,3,4,5,6]),(7316647,[0,3,4,5,6,7,43,44,45]),(916070,[3,4,11,68,69,70]),(916071,[3,4,11,68,69,70])],[],false,1475739569877229243016,[]⟩,⟨[(2,[0])],[],false,0,[]⟩,⟨[(2,[0,1,2,3]),(14,[0,1,2,3,9]),(1960,[0,3,9,12,13]),(982,[3,9,13,35]),(1962,[3,9]),(7864,[3,9]),(7866,[3,9])],[],false,34359738880,[]⟩,⟨[(2,[0,1]),(26,[0,3])],[],false,0,[(3,[(0,10)])]⟩,⟨[(2,[0,1])],[],false,0,[]⟩,⟨[(2,[0,1]),(60,[0,1,5]),(976,[0,1,5,6]),(3912,[0,1,5,6]),(62,[0,5]),(31308,[0,1,5,6,7]),(979,[0,1,5,6])],[],false,128,[]⟩,⟨[(2,[0,1])],[],false,0,[]⟩,⟨[(2,[0,1]),(28,[0,1]),(30,[0,1])],[],false,0,[]⟩,⟨[(2,[0])],[],false,0,[]⟩,⟨[(2,[0])],[],false,0,[]⟩,⟨[(2,[0,1,19]),(214,[2,5,19]),(1724,[2,5,19]),(863,[2,5,14,19]),(3451,[2,5]),(6908,[2,5,14]),(3455,[2,5,14,19]),(27638,[2,5,14]),(13822,[2,5]),(55279,[2,5]),(55294,[2,5]),(221182,[2,5]),(1769464,[2])],[],false,36,[]⟩,⟨[(2,[0,1,2]),(214,[2,3,7]),(862,[2,3,7]),(3454,[2,3,7]),(13822,[2,3,7]),(55294,[2,3,7]),(221182,[2,3,7]),(1769468,[2,3,7]),(884735,[2,3,7,72]),(3538939,[2,3,7]),(3538942,[2,3,7]),(14155774,[2,3,7])],[],false,136,[]⟩,⟨[(2,[0,1,2,30]),(54,[0,2,6,30]),(444,[0,2,6,30]),(223,[0,2,6,23,30]),(891,[0,2,6]),(1788,[0,2,6,23]),(895,[0,2,6,23,30]),(7158,[0,2,6,23]),(3582,[0,2,6]),(14319,[0,2,6]),(14334,[0,2,6]),(57342,[0,2,6])],[],false,64,[]⟩,⟨[(2,[0])],[],false,0,[]⟩,n_,⟨[(2,[0,1]),(250,[0,1,5,6,7]),(504,[5,6,7]),(2020,[5,6,7]),(2022,[5,6,7]),(8092,[5,6,7]),(8094,[5,6,7])],[],false,128,[]⟩]
def aI2:List FT:=[⟨[(2,[0,1,2]),(24,[0,1,2,9,10]),(408,[0,1,2,9,10]),(103,[0,1,2,9,10]),(1638,[0,1,2,4,9,10])],[],false,1024,[]⟩,⟨[(2,[0,1,2]),(48,[0,1,2,6]),(200,[0,1,2,6]),(3216,[0,1,2,6,7]),(6436,[0,1,2,6,7]),(51,[0,1,2,6])],[],false,0,[(6,[(2,17),(3,17),(4,17)])]⟩,⟨[(2,[0,1,2]),(976,[0,6,7,8,9]),(1956,[0,6,7,8,9]),(62,[0,6,7,8]),(1008,[0,6,7,10]),(4040,[0,6,7,10])],[],false,0,[(10,[(2,19),(3,19),(4,19),(5,19)])]⟩,⟨[(2,[0,1,2]),(28,[0,1,6]),(1904,[0,1,6,7,8,9]),(7624,[0,1,6,7,8,9]),(61002,[0,1,6,7,8,9,10]),(15251,[0,1,6,7,8,9,10])],[],false,128,[(10,[(2,19),(3,19),(4,19),(5,19)])]⟩,⟨[(2,[0,1,2]),(4072,[0,8,9,10,11,12]),(510,[9,11]),(16292,[0,9,10,11,12]),(2037,[0,9,10,11,12]),(8182,[11,49])],[],false,562949953421824,[]⟩,⟨[(2,[0,1,2]),(112,[0,6,7]),(228,[0,6,7])],[],false,0,[(3,[(2,15),(3,15)])]⟩,⟨[(2,[0,1,2]),(464,[0,1,2,7,8]),(29824,[0,1,2,7,8]),(29826,[0,1,2,7,8]),(7460,[0,1,2,7,8]),(14924,[0,1,2,7,8]),(14926,[0,1,2,7,8]),(238836,[0,1,2,7,8]),(59710,[0,1,2,7,8]),(3821392,[0,1,2,7,8,9]),(238844,[0,1,2,7,8]),(467,[0,1,2,7,8]),(30571152,[0,1,2,7,8,9]),(3821520,[0,1,2,7,8,10]),(15285577,[0,1,2,7,8,9]),(30572176,[0,1,2,7,8,10]),(15286089,[0,1,2,7,8,10])],[],false,0,[(11,[(2,17),(3,17),(4,17)]),(17,[(2,17),(3,17),(4,17)]),(23,[(2,17),(3,17),(4,17)])]⟩,⟨[(2,[0,1])],[],false,0,[]⟩,⟨[(2,[0,1,2,3]),(7680,[0,1,9,10]),(7682,[0,1,9,10]),(15392,[0,1,9,10]),(15394,[0,1,9,10]),(3852,[0,1,9,10]),(3854,[0,1,9,10])],[],false,0,[(1,[(2,15),(3,15)]),(8,[(2,15),(3,15)])]⟩,⟨[(2,[0,1,2,3]),(480,[0,1,10,11]),(482,[0,1,10,11]),(992,[0,1,10,11]),(994,[0,1,10,11]),(252,[0,1,10,11]),(1012,[0,1,11]),(254,[0,1,10,11]),(523776,[0,1,10,11]),(523778,[0,1,10,11]),(1047584,[0,1,10,11]),(1047586,[0,1,10,11]),(261900,[0,1,10,11]),(4094,[0,1,11]),(261902,[0,1,10,11])],[],false,0,[(1,[(2,15),(3,15)]),(8,[(2,15),(3,15)]),(10,[(2,15),(3,15)]),(18,[(2,15),(3,15)]),(21,[(2,15),(3,15)])]⟩,n_,⟨[(2,[0])],[],false,0,[]⟩,⟨[(2,[0])],[],false,2101256,[]⟩,n_,n_,⟨[(2,[0,1]),(104,[0,1,7,8]),(1688,[0,1,7,8]),(423,[0,1,7,8])],[],false,256,[]⟩]
def aHv:List FT:=[⟨[(2,[0,1])],[],false,0,[]⟩,⟨[(2,[0,1]),(52,[0,3]),(54,[0,3]),(7144,[4,5,7,29,30,31]),(114328,[4,5,7,29,30,31]),(914636,[4,8]),(28583,[4,5,7,29,30,31])],[],false,2684355080,[]⟩,⟨[(2,[0])],[],false,0,[]⟩,⟨[(2,[0])],[],false,0,[]⟩,⟨[(2,[0,1]),(60,[0,7,8])],[],false,0,[]⟩,⟨[(2,[0,1]),(60,[4,6,7]),(62,[4,6,7])],[],false,16,[]⟩,⟨[(2,[0])],[],false,0,[]⟩,⟨[(2,[0])],[],false,0,[]⟩,⟨[(2,[0,1,2]),(30,[0,1,2])],[],false,0,[]⟩,⟨[(2,[0])],[],false,0,[]⟩,⟨[(2,[0,1]),(14,[0,3]),(246,[0,3,6,7]),(124,[0,3,6]),(126,[0,3])],[],false,200,[(4,[(9,13)])]⟩,⟨[(2,[0,1]),(14,[0])],[],false,0,[]⟩,⟨[(2,[0,1]),(14,[0])],[],false,0,[]⟩,⟨[(2,[0,1]),(14,[0,3]),(2024,[0,3,6,7,9]),(254,[0,3,6,7,9]),(1013,[0,3,6,7,9]),(1022,[0,3,6,7,9,10,11,12]),(8186,[0,3,6,7,9,10,12]),(4094,[0,3,6,7,9,10]),(65522,[0,6,7]),(131046,[0,3,6,7,10]),(262094,[0,3,6]),(262095,[0,3,6,7])],[],false,200,[(4,[(9,13)])]⟩,⟨[(1,[0,1])],[],false,0,[]⟩,⟨[(2,[0,1])],[],false,0,[]⟩]
def aI5:List FT:=[⟨[(2,[0,1,2]),(30,[0,1,2])],[],false,0,[]⟩,⟨[(2,[0,1]),(24,[0,8,9]),(408,[0,8,9]),(103,[0,8,9])],[],false,512,[]⟩,⟨[(2,[0,1]),(30,[4,6,7])],[],false,1048592,[]⟩,⟨[(2,[0,1,2,3]),(48,[0,2,3,8]),(396,[0,2,3,8,9]),(794,[0,2,3,8,9]),(796,[0,2,3,8,9]),(798,[0,2,3,8,9])],[],false,0,[(6,[(4,23),(5,23),(6,23),(7,23)])]⟩,⟨[(2,[0,1,2])],[],false,0,[]⟩,⟨[(2,[0,1,2,3,4])],[],false,0,[]⟩,n_,⟨[(2,[0,1])],[],false,0,[]⟩,⟨[(2,[0,1]),(14,[0,1]),(122,[0])],[],false,0,[]⟩,⟨[(2,[0,1,2,3]),(52,[1,2,3])],[],false,524288,[]⟩,⟨[(2,[0])],[],false,0,[]⟩,n_,n_,n_,n_,n_]
def aHd:List FT:=[n_,n_,n_,n_,n_,n_,n_,n_,n_,n_,n_,n_,n_,n_,⟨[(2,[0,1,2]),(30,[1,3,8])],[],false,1032,[(7,[(0,13),(1,13)])]⟩,n_]
def TT:FuncId->FT:=aI3 [tb0,tb1,tb2,tb3,tb4,tb5,tb6,tb7,tb8,tb9,aI9,aHf,aHe,aHm,aHx,aHg,aHu,aI2,aHv,aI5,aHd]
abbrev Dd (f:FuncId) (i:Nat) (a:List Nat) (Q:Value->AH->Prop) (vs:List Value) (h:AH):Prop:=Go.Ab.D Pr K TT f i a Q vs h
theorem cW {f:FuncId} {args:List Value} {Q:Value->AH->Prop} {h:AH} (a:wC Pr K TT f args Q h):Cl Pr K f args h Q:=Go.Ab.cW a
theorem rW {f:FuncId} {num m l d:Nat} {lv:List Nat} {vs args:List Value} {e:Nat->Value} {st:LoopState} {pd:Option Code} {Q:Value->AH->Prop} {h:AH} (b:h.get l=some (lp Pr f (pD num) m e d st pd)) (a:List.map e lv=vs)
  (c:wR0 Pr K TT f num m lv vs l args Q h):yO Pr K (.func (.yield l) #[] #[]) args h Q:=Go.Ab.rW b a c
end
end Go.Proofs.YtajjljbmfdboaaaGreatDoor
namespace Go.Hm
open Go Go.Ab
section
structure bP where
 aE:Int
 aN:Int
 aI:Int
 ways:Int
 depth:Int
 entries:Int
 aT:Int
 deriving DecidableEq
def bP.list (C:bP):List Int:=[C.aE,C.aN,C.aI,C.ways,C.depth,C.entries,C.aT]
def bP.enc (C:bP):List Value:=[I C.aE,I C.aN,I C.aI,I C.ways,I C.depth,I C.entries,I C.aT]
def aCf:List Int:=[4,16,8,4,16,8,4]
def eT:List Value:=[I 4,I 16,I 8,I 4,I 16,I 8,I 4]
def bP.mv (C:bP):Nat->Nat->Int
 |0,_=>0
 |f+1,i=>if C.list.getD i 0<1\/aCf.getD i 0<C.list.getD i 0 then 10 else C.mv f (i+1)
def bP.Ok (C:bP):Prop:=(1<=C.aE/\C.aE<=4)/\(1<=C.aN/\C.aN<=16)/\(1<=C.aI/\C.aI<=8)/\(1<=C.ways/\C.ways<=4)/\(1<=C.depth/\C.depth<=16)/\(1<=C.entries/\C.entries<=8)/\(1<=C.aT/\C.aT<=4)
instance (C:bP):Decidable C.Ok:=by unfold bP.Ok;infer_instance
theorem bP.aGj (C:bP):C.mv 7 0=if C.Ok then 0 else 10:=by
 simp only[bP.mv,bP.list,aCf,List.getD_cons_zero,List.getD_cons_succ];by_cases h:C.Ok;rw[aJ7 h];unfold bP.Ok at h;repeat rw[aaa]
 .rw[aJ6 h];unfold bP.Ok at h;repeat' split
  all_goals first|rfl|(exfalso;omega)
def bP.lines (C:bP):Nat:=(C.aN*2).toNat
theorem bP.fN {C:bP} (h:C.Ok):(C.lines:Int)=C.aN*2/\2<=C.lines/\C.lines<=32:=by
 unfold bP.Ok at h;unfold bP.lines;omega
end
end Go.Hm
section
open Go Go.Ab
attribute [local irreducible] bG Br pK sD tZ Cq mN wW lR Rs gX mT rA rG pJ kU zA vE V9 V4 Ro Ps Vv Qm Jp Nb Vm lB oL tX jK copyV iQ xK V7 V8 Hn lG Nc Sp V2 oA rY yU Ao Cl yO Vx tE sC kJ hT setLoop cT
namespace Go.Proofs.YtajjljbmfdboaaaGreatDoor
open Go Go.Ab Go.Hm
section
set_option maxRecDepth 100000
variable {G:Bg} {h:AH} {L L':List HP}
theorem Y0 {C:bP} {p:Nat} {Q:Value->AH->Prop} (g:Hs G h (aG p 0 C.enc::L)):∀(f i:Nat),i+f=7->Q (I (C.mv f i)) h->Dd 89 1 [] Q [(pt p 0 0),(I 0),(.agg ⟨eT⟩),(I i)] h:=by
 intro f;induction f with
 |zero=>
  intro i j a;exact bW (bA (aab a))
 |succ f l=>
  intro i j a;have b:i<7:=by omega
  refine bW (bA (aae (bW ?_)));have e:C.enc[0+i*1]?=some (I (C.list.getD i 0)):=by
   have:i=0\/i=1\/i=2\/i=3\/i=4\/i=5\/i=6:=by omega
   rcases this with rfl|rfl|rfl|rfl|rfl|rfl|rfl<;>rfl
  have k:eT[i]?=some (I (aCf.getD i 0)):=by
   have:i=0\/i=1\/i=2\/i=3\/i=4\/i=5\/i=6:=by omega
   rcases this with rfl|rfl|rfl|rfl|rfl|rfl|rfl<;>rfl
  rw[bP.mv] at a;refine cv b k (fQ b (aD g e (bA (aX (fun c=>?_) (fun c=>fQ b (aD g e (mC (aX (fun d=>bW ?_) (fun d=>bW (aad (l (i+1) (by omega) ?_)))))))))));rw[aJ7 (.inl c)] at a;exact a;rw[aJ7 (.inr d)] at a;exact a;rw[aaa] at a;exact a
theorem nB {C:bP} {Q:Value->AH->Prop} (e:Ob G 0 eT) (a:Hs G h L) (d:∀b,Hs G b L->Q (I (if C.Ok then 0 else 10)) b):Cl Pr K 89 [.agg ⟨C.enc⟩] h Q:=by
 refine cW ?_;refine dR a ?_;intro p h a;iterate 7 refine aA (aD a rfl ?_)
 refine aQ (c:=C.enc) rfl (bQ a ?_);intro p h a;refine ax a ?_;intro h a;refine aDo a e rfl ?_;refine Y0 (C:=C) a 7 0 rfl ?_;show Q _ _;rw[bP.aGj];exact d _ a.tail.tail
theorem rB {C:bP} (hC:C.Ok) {Q:Value->AH->Prop} (e:Ob G 0 eT) (a:Hs G h L) (d:∀b,Hs G b L->Q (I C.lines) b):Cl Pr K 63 [.agg ⟨C.enc⟩] h Q:=by
 refine cW ?_;refine dR a ?_;intro p h a;refine aR a (by decide) (l:=C.enc) rfl rfl (nB e a fun h a=>?_);rw[aJ7 hC];have c:=bP.fN hC;refine bC (aab ?_);refine aA (aD a rfl (Ds (by unfold bP.Ok at hC;omega) ?_));show Q _ _;rw[show C.aN*2=(C.lines:Int) from c.1.symm];exact d _ a.tail
theorem fc {C:bP} (hC:C.Ok) {l:Int} {Q:Value->AH->Prop} (f:Ob G 0 eT) (a:Hs G h L) (b:∀c,Hs G c L->Q (if 0<=l/\l<C.lines then .tuple ⟨[I (l % C.aT),I 0]⟩ else .tuple ⟨[I 0,I 10]⟩) c):Cl Pr K 238 [.agg ⟨C.enc⟩,I l] h Q:=by
 refine cW ?_;refine dR a ?_;intro p h a;refine bA (aX (fun d=>?_) (fun d=>?_));have:=b _ a.tail;rw[aaa] at this;exact this;refine aR a (by decide) (l:=C.enc) rfl rfl (rB hC f a fun h a=>?_);refine dW (aX (fun e=>?_) (fun e=>?_));have:=b _ a.tail;rw[aaa] at this;exact this;have:=b _ a.tail;rw[aac] at this;refine aA (aD a rfl (Me (by omega) (by unfold bP.Ok at hC;omega) ?_));exact this
end
end Go.Proofs.YtajjljbmfdboaaaGreatDoor
end
namespace Go.Hm
open Go Go.Ab
section
abbrev Ln:=Int×Int
def M6 (l:Ln):List Value:=[I l.1,I l.2]
def iB (n B i:Nat):Nat:=(n+B - 1 - i)/B
theorem dy {B i:Nat} (a:i<B):iB 0 B i=0:=Nat.div_eq_of_lt (by omega)
theorem O2 {n B i:Nat} (d:i<B):iB (n+1) B i=if i=n % B then iB n B i+1 else iB n B i:=by
 have a:=Nat.div_add_mod n B;have c:=Nat.mod_lt n (show 0<B by omega);unfold iB;generalize n/B=q at a;generalize n % B=r at a c ⊢;subst a;split;rename_i h;subst h;rw[show B*q+i+1+B - 1 - i=B*q+B by omega,show B*q+i+B - 1 - i=B*q+(B - 1) by omega];rw[Nat.mul_add_div (by omega),Nat.mul_add_div (by omega),Nat.div_self (by omega),Nat.div_eq_of_lt (show B - 1<B by omega)];rename_i h;rcases Nat.lt_or_ge i r with b|b;rw[show B*q+r+1+B - 1 - i=B*q+(B+(r - i)) by omega,show B*q+r+B - 1 - i=B*q+(B+(r - i - 1)) by omega];rw[Nat.mul_add_div (by omega),Nat.mul_add_div (by omega),Nat.add_div_left _ (by omega),Nat.add_div_left _ (by omega),Nat.div_eq_of_lt (show r - i<B by omega),Nat.div_eq_of_lt (show r - i - 1<B by omega)];rw[show B*q+r+1+B - 1 - i=B*q+(B+r - i) by omega,show B*q+r+B - 1 - i=B*q+(B+r - i - 1) by omega];rw[Nat.mul_add_div (by omega),Nat.mul_add_div (by omega),Nat.div_eq_of_lt (show B+r - i<B by omega),Nat.div_eq_of_lt (show B+r - i - 1<B by omega)]
theorem Iv {n B l:Nat} (hB:0<B) (b:l<n):l/B<iB n B (l % B):=by
 unfold iB;have a:=Nat.div_add_mod l B;have c:=Nat.mod_lt l hB;rw[Nat.lt_div_iff_mul_lt hB];rw[Nat.mul_comm];generalize B*(l/B)=q at a ⊢;omega
theorem Q4 {B l k i:Nat} (a:i<B):k*B+i=l↔k=l/B/\i=l % B:=by
 constructor;intro h;subst h;rw[Nat.mul_comm,Nat.mul_add_div (by omega),Nat.mul_add_mod,Nat.div_eq_of_lt a,Nat.mod_eq_of_lt a];simp;rintro ⟨rfl,rfl⟩;have:=Nat.div_add_mod l B;rw[Nat.mul_comm];exact this
theorem bP.bk {C:bP} (h:C.Ok):(C.aT.toNat:Int)=C.aT/\0<C.aT.toNat/\C.aT.toNat<=4:=by unfold bP.Ok at h;omega
def M9 (B i:Nat) (mem:Nat->Ln):Nat->List Value:=fun k=>M6 (mem (k*B+i))
theorem Q5 {B i:Nat} {mem:Nat->Ln} (k:Nat):(M9 B i mem k).length=2:=rfl
theorem qF {α:Type} {f:Nat->α} {i:Nat}:aS f i (f i)=f:=by
 funext j;unfold aS;split;rename_i h;rw[h];rfl
theorem sv {B l:Nat} {mem:Nat->Ln} (hB:0<B):M9 B (l % B) mem (l/B)=M6 (mem l):=by
 unfold M9;rw[(Q4 (Nat.mod_lt l hB)).2 ⟨rfl,rfl⟩]
theorem R2 {B l:Nat} {mem:Nat->Ln} {v:Ln} (hB:0<B):aS (M9 B (l % B) mem) (l/B) (M6 v)=M9 B (l % B) (aS mem l v):=by
 funext k;unfold M9 aS;have:=(Q4 (l:=l) (k:=k) (Nat.mod_lt l hB));by_cases h:k=l/B;rw[aJ7 h,aJ7 (this.2 ⟨h,rfl⟩)];rw[aJ6 h,aJ6 (fun e=>h (this.1 e).1)]
theorem w6 {B l i:Nat} {mem:Nat->Ln} {v:Ln} (a:i<B) (h:i≠l % B):M9 B i (aS mem l v)=M9 B i mem:=by
 funext k;unfold M9 aS;rw[aJ6 (fun e=>h ((Q4 a).1 e).2)]
theorem Zh {n B i:Nat} (hB:0<B):iB n B i<=n:=by
 unfold iB;refine Nat.le_of_lt_succ (Nat.div_lt_of_lt_mul ?_);rw[Nat.mul_succ];have:n<=B*n:=Nat.le_mul_of_pos_left _ hB;omega
def nH:Nat->Ln:=fun _=>(0,0)
end
end Go.Hm
section
open Go Go.Ab
attribute [local irreducible] bG Br pK sD tZ Cq mN wW lR Rs gX mT rA rG pJ kU zA vE V9 V4 Ro Ps Vv Qm Jp Nb Vm lB oL tX jK copyV iQ xK V7 V8 Hn lG Nc Sp V2 oA rY yU Ao Cl yO Vx tE sC kJ hT setLoop cT
namespace Go.Proofs.YtajjljbmfdboaaaGreatDoor
open Go Go.Ab Go.Hm
section
set_option maxRecDepth 100000
variable {G:Bg} {h:AH} {L L':List HP}
structure BkA where
 r:Int
 w:Int
 a:Option Addr
 cap:Nat
def fY (n B b o i:Nat) (mem:Nat->Ln):HP:=vD fun x:BkA=>
 sp [aG b o [I x.r,I x.w,.slice x.a (iB n B i) x.cap],cN 2 155 x.a x.cap (iB n B i,(List.range (iB n B i)).flatMap (M9 B i mem))]
theorem Bv {n B b o i:Nat} {mem:Nat->Ln} (d:Hs G h (fY n B b o i mem::L)):∃r w a c,Hs G h (aG b o [I r,I w,.slice a (iB n B i) c]::cN 2 155 a c (iB n B i,(List.range (iB n B i)).flatMap (M9 B i mem))::L):=by
 obtain⟨⟨r,w,a,c⟩,d⟩:=d.B4;exact⟨r,w,a,c,d.unpack⟩
theorem pM {n B b o i:Nat} {mem:Nat->Ln} {r w:Int} {a:Option Addr} {cap:Nat} (c:Hs G h (aG b o [I r,I w,.slice a (iB n B i) cap]::cN 2 155 a cap (iB n B i,(List.range (iB n B i)).flatMap (M9 B i mem))::L)):Hs G h (fY n B b o i mem::L):=
 Hs.zX (A:=fun x:BkA=>sp [aG b o [I x.r,I x.w,.slice x.a (iB n B i) x.cap],cN 2 155 x.a x.cap (iB n B i,(List.range (iB n B i)).flatMap (M9 B i mem))]) ⟨r,w,a,cap⟩ (Hs.pack (A:=[_,_]) c)
structure MmA where
 b:Nat
 o:Nat
 cap:Nat
def eO (G:Bg) (n mb:Nat) (C:bP) (mem:Nat->Ln):HP:=vD fun x:MmA=>
 sp [aG mb 0 (C.enc++[.slice (some ⟨x.b,x.o,none⟩) C.aT.toNat x.cap]),hole G 3 297 (some ⟨x.b,x.o,none⟩) x.cap C.aT.toNat x.b x.o,dF C.aT.toNat fun i=>fY n C.aT.toNat x.b (x.o+i*3) i mem]
theorem wJ {n mb:Nat} {C:bP} {mem:Nat->Ln} (c:Hs G h (eO G n mb C mem::L)):∃b o a,Hs G h (aG mb 0 (C.enc++[.slice (some ⟨b,o,none⟩) C.aT.toNat a])::hole G 3 297 (some ⟨b,o,none⟩) a C.aT.toNat b o::dF C.aT.toNat (fun i=>fY n C.aT.toNat b (o+i*3) i mem)::L):=by
 obtain⟨⟨b,o,a⟩,c⟩:=c.B4;exact⟨b,o,a,c.unpack⟩
theorem sN {n mb:Nat} {C:bP} {mem:Nat->Ln} {b o cap:Nat} (a:Hs G h (aG mb 0 (C.enc++[.slice (some ⟨b,o,none⟩) C.aT.toNat cap])::hole G 3 297 (some ⟨b,o,none⟩) cap C.aT.toNat b o::dF C.aT.toNat (fun i=>fY n C.aT.toNat b (o+i*3) i mem)::L)):Hs G h (eO G n mb C mem::L):=
 Hs.zX (A:=fun x:MmA=>sp [aG mb 0 (C.enc++[.slice (some ⟨x.b,x.o,none⟩) C.aT.toNat x.cap]),hole G 3 297 (some ⟨x.b,x.o,none⟩) x.cap C.aT.toNat x.b x.o,dF C.aT.toNat fun i=>fY n C.aT.toNat x.b (x.o+i*3) i mem]) ⟨b,o,cap⟩ (Hs.pack (A:=[_,_,_]) a)
theorem Jr {a L2 c:List HP} (n mb:Nat) (C:bP) (mem:Nat->Ln) (b o cap:Nat) (d:Hs G h L) [k:dY (aG mb 0 (C.enc++[.slice (some ⟨b,o,none⟩) C.aT.toNat cap])) L a] [e:dY (hole G 3 297 (some ⟨b,o,none⟩) cap C.aT.toNat b o) a L2] [f:dY (dF C.aT.toNat (fun i=>fY n C.aT.toNat b (o+i*3) i mem)) L2 c]:Hs G h (eO G n mb C mem::c):=
 sN (b:=b) (o:=o) (cap:=cap) (d.perm (k.perm.trans ((e.perm.trans (f.perm.cons _)).cons _)))
theorem uU {C:bP} (hC:C.Ok) {mb b o cap l:Nat} {Q:Value->AH->Prop} (i:Ob G 0 eT) (a:Hs G h L) [m:Has (aG mb 0) L (C.enc++[.slice (some ⟨b,o,none⟩) C.aT.toNat cap]) L'] (j:l<C.lines)
  (g:∀d,Hs G d L->Q (.tuple ⟨[pt b (o+(l % C.aT.toNat)*3) 0,I (l/C.aT.toNat:Nat),I 0]⟩) d):Cl Pr K 177 [pt mb 0 0,I l] h Q:=by
 have c:=bP.bk hC
 refine cW (dD (cG (bW ?_)))
 refine aB (aA (aR a (by decide) (l:=C.enc) rfl rfl (fc hC i a fun h a=>?_)))
 rw[aac]
 refine aH rfl (aH rfl (bC (aab ?_)))
 refine aY a ?_
 intro r h a
 refine aB (aA (aD a rfl ?_))
 have e:(l:Int) % C.aT=((l % C.aT.toNat:Nat):Int):=by rw[<-c.1];simp
 have f:(l:Int)/C.aT=((l/C.aT.toNat:Nat):Int):=by rw[<-c.1];simp
 rw[e]
 refine dM (Nat.mod_lt _ c.2.1) (aB (aA (aA (aD a rfl (E3 (by omega) (by omega) (by have:=(bP.fN hC).2;omega) ?_)))))
 show Q _ _
 rw[f]
 exact g _ a.tail
theorem Zi {C:bP} (hC:C.Ok) {mb l:Nat} {mem:Nat->Ln} {Q:Value->AH->Prop} (y:Ob G 0 eT) (d:Hs G h L) [m:Has (eO G C.lines mb C) L mem L'] (u:l<C.lines)
  (x:∀t,Hs G t (eO G C.lines mb C mem::L')->Q (.tuple ⟨[.agg ⟨M6 (mem l)⟩,I 0]⟩) t):Cl Pr K 306 [pt mb 0 0,I l] h Q:=by
 have j:=bP.bk hC
 have d:=m.of d
 obtain⟨b,o,f,d⟩:=wJ d
 refine cW (bQ d ?_)
 intro p h d
 refine uU hC y d u fun h d=>?_
 refine aH rfl (aH rfl (aH rfl (bC (aab (bW ?_)))))
 have d:=(d.front (dF C.aT.toNat fun i=>fY C.lines C.aT.toNat b (o+i*3) i mem)).jX (l % C.aT.toNat) (Nat.mod_lt _ j.2.1)
 obtain⟨r,w,a,q,d⟩:=Bv d
 refine aB (aA (aA (aD d rfl (Li (aB (aA (aA (ay d ?_))))))))
 intro h d
 refine aB (aA (aD d rfl ?_))
 have g:=Iv j.2.1 u
 obtain⟨k,v,rfl,H,d,e⟩:=Hs.py (Q5 (B:=C.aT.toNat) (i:=l % C.aT.toNat) (mem:=mem)) g (d.front (cN 2 155 a q (iB C.lines C.aT.toNat (l % C.aT.toNat),(List.range (iB C.lines C.aT.toNat (l % C.aT.toNat))).flatMap (M9 C.aT.toNat (l % C.aT.toNat) mem))))
 rw[sv j.2.1] at d
 refine dM g (aR d (by decide) (l:=M6 (mem l)) rfl rfl ?_)
 refine ax d ?_
 intro h d
 refine aR d (by decide) rfl rfl ?_
 refine x _ ?_
 have d:=e _ _ _ rfl rfl (d.cI (aG k (v+l/C.aT.toNat*2) (M6 (mem l))) H)
 rw[R2 j.2.1,qF] at d
 have d:=pM (d.sg (b:=b) (o:=o+l % C.aT.toNat*3) (c:=[I (wr (r+1)),I w,.slice (some ⟨k,v,none⟩) (iB C.lines C.aT.toNat (l % C.aT.toNat)) q]) rfl)
 exact sN (b:=b) (o:=o) (cap:=f) ((d.lA (n:=C.aT.toNat) (i:=l % C.aT.toNat) (fun i=>fY C.lines C.aT.toNat b (o+i*3) i mem) (fun i=>fY C.lines C.aT.toNat b (o+i*3) i mem) (Nat.mod_lt _ j.2.1) (fun _ _ _=>rfl)).to)
theorem Ej {C:bP} (hC:C.Ok) {mb l:Nat} {mem:Nat->Ln} {v:Ln} {Q:Value->AH->Prop} (D:Ob G 0 eT) (d:Hs G h L) [m:Has (eO G C.lines mb C) L mem L'] (y:l<C.lines)
  (A:∀x,Hs G x (eO G C.lines mb C (aS mem l v)::L')->Q (I 0) x):Cl Pr K 217 [pt mb 0 0,I l,.agg ⟨M6 v⟩] h Q:=by
 have j:=bP.bk hC
 have d:=m.of d
 obtain⟨b,o,f,d⟩:=wJ d
 refine cW (dR d ?_)
 intro p h d
 refine uU hC D d y fun h d=>?_
 refine aH rfl (aH rfl (aH rfl (bC (aab (bW ?_)))))
 have d:=(d.front (dF C.aT.toNat fun i=>fY C.lines C.aT.toNat b (o+i*3) i mem)).jX (l % C.aT.toNat) (Nat.mod_lt _ j.2.1)
 obtain⟨r,w,a,u,d⟩:=Bv d
 refine aB (aA (aA (aD d rfl (Li (aB (aA (aA (ay d ?_))))))))
 intro h d
 refine aY d ?_
 intro E h d
 refine aB (aA (aD d rfl (aR d (by decide) rfl rfl ?_)))
 have g:=Iv j.2.1 y
 obtain⟨k,t,rfl,H,d,e⟩:=Hs.py (Q5 (B:=C.aT.toNat) (i:=l % C.aT.toNat) (mem:=mem)) g (d.front (cN 2 155 a u (iB C.lines C.aT.toNat (l % C.aT.toNat),(List.range (iB C.lines C.aT.toNat (l % C.aT.toNat))).flatMap (M9 C.aT.toNat (l % C.aT.toNat) mem))))
 refine dM g (ax d ?_)
 intro h d
 refine A _ ?_
 have d:=e _ _ _ rfl rfl ((d.sg (b:=k) (o:=t+l/C.aT.toNat*2) (c:=M6 v) rfl).cI (aG k (t+l/C.aT.toNat*2) (M6 v)) H)
 rw[R2 j.2.1] at d
 have d:=pM (d.sg (b:=b) (o:=o+l % C.aT.toNat*3) (c:=[I r,I (wr (w+1)),.slice (some ⟨k,t,none⟩) (iB C.lines C.aT.toNat (l % C.aT.toNat)) u]) rfl)
 exact sN (b:=b) (o:=o) (cap:=f) ((d.lA (n:=C.aT.toNat) (i:=l % C.aT.toNat) (fun i=>fY C.lines C.aT.toNat b (o+i*3) i mem) (fun i=>fY C.lines C.aT.toNat b (o+i*3) i (aS mem l v)) (Nat.mod_lt _ j.2.1) (fun i z q=>by simp only[fY,w6 z q])).to)
theorem Vh {C:bP} (hC:C.Ok) {p mb:Nat} {Q:Value->AH->Prop} (A:∀t,Hs G t (eO G C.lines mb C nH::L)->Q (.tuple ⟨[pt mb 0 0,I 0]⟩) t):∀(f n:Nat) (h:AH) (g:HP),n+f=C.lines->Hs G h (eO G n mb C nH::aG p 0 C.enc::g::L)->
  Dd 93 2 [] Q [(pt p 0 0),(pt mb 0 0),(I C.lines),(I n)] h:=by
 have l:=bP.bk hC
 have D:=bP.fN hC
 intro f
 induction f with
 |zero=>
  intro n h g E d
  have:n=C.lines:=by omega
  subst this
  exact bW (bA (aab (A _ d.to)))
 |succ f F=>
  intro n h g E d
  refine bW (bA (aae (bW ?_)))
  refine aY d ?_
  intro H h d
  obtain⟨b,o,e,d⟩:=wJ (d.front (eO G n mb C nH))
  refine aB (aA (aD d rfl (aA (aD d rfl ?_))))
  have v:(n:Int) % C.aT=((n % C.aT.toNat:Nat):Int):=by rw[<-l.1];simp
  refine Me (by omega) (by omega) ?_
  rw[v]
  have k:=Nat.mod_lt n l.2.1
  refine dM k ?_
  have d:=(d.front (dF C.aT.toNat fun i=>fY n C.aT.toNat b (o+i*3) i nH)).jX (n % C.aT.toNat) k
  obtain⟨r,w,a,J,d⟩:=Bv d
  refine aB (aA (aD d rfl (aQ (c:=M6 (0,0)) rfl (aQ (c:=M6 (0,0)) rfl ?_))))
  refine dL d rfl rfl rfl ?_
  intro a3 h d
  have y:=Zh (n:=n) (B:=C.aT.toNat) (i:=n % C.aT.toNat) l.2.1
  refine nY d (by omega) ?_
  intro a4 u h d
  dsimp only
  refine aB (aA (ay d ?_))
  intro h d
  refine aad ?_
  refine F (n+1) h (sp [cN 2 155 (some a3) 1 (1,M6 (0,0)),af H (10,[]),g]) (by omega) ?_
  have q:iB (n+1) C.aT.toNat (n % C.aT.toNat)=iB n C.aT.toNat (n % C.aT.toNat)+1:=by rw[O2 k,aJ7 rfl]
  have x:(List.range (iB n C.aT.toNat (n % C.aT.toNat))).flatMap (M9 C.aT.toNat (n % C.aT.toNat) nH)++M6 (0,0)=(List.range (iB (n+1) C.aT.toNat (n % C.aT.toNat))).flatMap (M9 C.aT.toNat (n % C.aT.toNat) nH):=by
   rw[q,List.range_succ,List.flatMap_append];rfl
  rw[x,<-q] at d
  have d:=pM (n:=n+1) (r:=r) (w:=w) (a:=a4) (cap:=u) (b:=b) (o:=o+n % C.aT.toNat*3) d
  exact(Jr (n+1) mb C nH b o e (d.lA (n:=C.aT.toNat) (i:=n % C.aT.toNat) (fun i=>fY n C.aT.toNat b (o+i*3) i nH) (fun i=>fY (n+1) C.aT.toNat b (o+i*3) i nH) k (fun j z m=>by simp only[fY,O2 z,aJ6 m]))).to
theorem Pe {C:bP} (hC:C.Ok) {Q:Value->AH->Prop} (j:Ob G 0 eT) (d:Hs G h L) (t:∀e f,Hs G f (eO G C.lines e C nH::L)->Q (.tuple ⟨[pt e 0 0,I 0]⟩) f):Cl Pr K 93 [.agg ⟨C.enc⟩] h Q:=by
 have m:=bP.bk hC;refine cW (dR d ?_);intro p h d;refine aR d (by decide) (l:=C.enc) rfl rfl (nB j d fun h d=>?_);rw[aJ7 hC];refine bC (aab (bW (aY d ?_)));intro u h d;refine aR d (by decide) (l:=C.enc) rfl rfl (aA (aD d rfl (Qx (by omega) (by omega) (by omega) ?_)));dsimp only;refine jV d rfl rfl ?_ rfl ?_ ?_;rw[gT,rE (W:=3) (fun _=>rfl)];rw[gT];exact pO (fun _=>rfl) _;intro a h d;obtain⟨b,o,k,d⟩:=Hs.Ke (W:=3) rfl m.2.1 d;cases k;refine aQ (c:=C.enc++[.slice (some ⟨b,o,none⟩) C.aT.toNat C.aT.toNat]) rfl ?_;refine xD d rfl rfl ?_;intro e h d;refine aR d (by decide) (l:=C.enc) rfl rfl (rB hC j d fun h d=>?_);have d:=(Hs.Jb (g:=fun i=>fY 0 C.aT.toNat b (o+i*3) i nH) C.aT.toNat _ (fun i q h L d=>?_) (d.front (dF C.aT.toNat fun i=>aG b (o+i*3) [I 0,I 0,.slice none 0 0])));have d:=Jr 0 e C nH b o C.aT.toNat d;exact Vh hC (t e) C.lines 0 h _ (by omega) (d.to (M:=[eO G 0 e C nH,aG p 0 C.enc,sp []]++L));refine pM (r:=0) (w:=0) (a:=none) (cap:=0) ?_;rw[dy q];exact(gK d).lK
end
end Go.Proofs.YtajjljbmfdboaaaGreatDoor
end
section
namespace Go.Ab
abbrev tx (l:List UInt8):Value:= .string ⟨l.toArray⟩
variable {G:Bg} {h:AH} {L L':List HP}
end Go.Ab
end
namespace Go.Is
open Go Go.Ab
section
def opsL:List (List UInt8×List Int):=[([],[0,0,0]),([115,101,116],[1,2,0]),([97,100,100],[1,1,1]),([108,111,97,100],[1,1,0]),([115,116,111,114,101],[1,1,0]),([115,119,97,112],[1,1,0]),([102,101,110,99,101],[0,0,0]),
  ([119,111,114,108,100],[3,0,0]),([99,97,108,108],[4,1,1]),([106,117,109,112],[5,0,0]),([122,101,114,111],[1,5,0]),([104,97,108,116],[0,0,0])]
def sI:List Value:=opsL.flatMap fun r=>tx r.1::r.2.map I
structure Ins where
 op:Int
 a:Int
 b:Int
 c:Int
 deriving DecidableEq
def Ins.enc (x:Ins):List Value:=[I x.op,I x.a,I x.b,I x.c]
def Cm (o:Nat):List Int:=(opsL.getD o ([],[])).2
def isO (x:Int):Bool:=decide (1<=x/\x<12)
def An (nM v many:Int):Bool:=
 if nM=1 then decide (0<=v/\v<4) else if nM=2 then true else if nM=3 then decide (1<=v/\v<=3) else if nM=4 then decide (1<=v/\v<=4) else if nM=5 then decide (0<=v/\v<=many) else decide (v=0)
def Ins.Nf (x:Ins):List Int:=[x.a,x.b,x.c]
def Ins.D6 (x:Ins):List (Int×Int):=(Cm x.op.toNat).zip x.Nf
def mH (x:Ins) (many:Int):Int:=if isO x.op then(if(x.D6.all fun p=>An p.1 p.2 many) then 0 else 10) else 15
def mv (many:Int):List Ins->Nat->Int×Int
 |[],_=>(0,0)
 |x::l,i=>if mH x many≠0 then((i:Int)+1,mH x many) else mv many l (i+1)
def kL (p:List Ins):Int×Int:=if 32<p.length then(0,11) else mv p.length p 0
theorem o12 {k:Nat} (h:k<12):k=0\/k=1\/k=2\/k=3\/k=4\/k=5\/k=6\/k=7\/k=8\/k=9\/k=10\/k=11:=by omega
theorem o6 {k i:Nat} (h:k<12) (b:i<3):sI[k*4+(1+i*1)]?=some (I ((Cm k).getD i 0)):=by
 have a:i=0\/i=1\/i=2:=by omega
 rcases o12 h with rfl|rfl|rfl|rfl|rfl|rfl|rfl|rfl|rfl|rfl|rfl|rfl<;>rcases a with rfl|rfl|rfl<;>rfl
theorem U0 {k:Nat} (h:k<12):(Cm k).length=3:=by
 rcases o12 h with rfl|rfl|rfl|rfl|rfl|rfl|rfl|rfl|rfl|rfl|rfl|rfl<;>rfl
theorem Ol {x:Ins} (h:isO x.op=true):x.D6.length=3:=by
 have:=of_decide_eq_true h;unfold Ins.D6;rw[List.length_zip,U0 (by omega)];rfl
theorem D9 {x:Ins} (h:isO x.op=true) {i:Nat} (b:i<3):x.D6[i]?=some ((Cm x.op.toNat).getD i 0,x.Nf.getD i 0):=by
 have:=of_decide_eq_true h;have a:=U0 (k:=x.op.toNat) (by omega);unfold Ins.D6;rw[List.getElem?_zip_eq_some];refine⟨?_,?_⟩;show(Cm x.op.toNat)[i]?=some ((Cm x.op.toNat).getD i 0);rw[List.getD_eq_getElem?_getD,List.getElem?_eq_getElem (by omega)];rfl;show x.Nf[i]?=some (x.Nf.getD i 0);rw[List.getD_eq_getElem?_getD,List.getElem?_eq_getElem (by simp[Ins.Nf];omega)];rfl
theorem Qw {many:Int}:∀(l:List Ins) (i:Nat),(mv many l i).2=0->∀x∈l,mH x many=0
 |[],_,_,x,a=>by simp at a
 |y::l,i,h,x,a=>by
  rw[mv] at h;split at h;rename_i b;exact absurd h b;rename_i b;rcases List.mem_cons.1 a with rfl|a;omega;exact Qw l (i+1) h x a
theorem nB {p:List Ins} (h:(kL p).2=0):p.length<=32/\∀x∈p,mH x p.length=0:=by
 unfold kL at h;split at h;cases h;exact⟨by omega,Qw p 0 h⟩
end
end Go.Is
namespace Go.Proofs.YtajjljbmfdboaaaGreatDoor
open Go Go.Ab Go.Is
section
theorem aDe {g n a i:Nat} {x:Int} {k:Value->Prop} (d:x=(i:Int)) (e:i<n) (c:k (pt g (i*a) 0)):bG (oL n a (.pointer (some ⟨g,0,none⟩)) (I x)) k:=by
 subst d;exact dX (b:=g) (o:=0) (j:=0) (by omega) (by omega) (by simpa [pt] using c)
theorem nA {α:Type} {l:List α} {i:Nat} (h:i<l.length):∃x,l[i]?=some x/\l.drop i=x::l.drop (i+1):=⟨l[i],by simp,List.drop_eq_getElem_cons h⟩
set_option maxRecDepth 100000
attribute [local irreducible] bG Br pK sD tZ Cq mN wW lR Rs gX mT rA rG pJ kU zA vE V9 V4 Ro Ps Vv Qm Jp Nb Vm lB oL tX jK copyV iQ xK V7 V8 Hn lG Nc Sp V2 oA rY yU Ao Cl yO Vx tE sC kJ hT setLoop cT
variable {G:Bg} {h:AH} {L L' M:List HP} {Q:Value->AH->Prop}
theorem mg {x:Int} (a:Q (.bool (isO x)) h):Cl Pr K 184 [I x] h Q:=by
 refine cW (dW (aX (fun b=>bA ?_) (fun b=>?_)));show Q _ _;rw[show decide (x<12)=isO x from decide_eq_decide.2 (by omega)];exact a;show Q _ _;rw[show false=isO x from(decide_eq_false (by omega)).symm];exact a
theorem Ti {nM v many:Int} (a:Q (.bool (An nM v many)) h):Cl Pr K 186 [I nM,I v,I many] h Q:=by
 unfold An at a;refine cW (bH (aX (fun c=>?_) (fun d=>bW (bH (aX (fun c=>?_) (fun e=>bW (bH (aX (fun c=>?_) (fun f=>bW (bH (aX (fun c=>?_) (fun g=>bW (bH (aX (fun c=>?_) (fun n5=>bH ?_)))))))))))))));rw[aJ7 c] at a;refine dW (aX (fun b=>bA ?_) (fun b=>?_));show Q _ _;rw[show decide (v<4)=decide (0<=v/\v<4) from decide_eq_decide.2 (by omega)];exact a;rw[decide_eq_false (by omega)] at a;exact a;rw[aJ6 d,aJ7 c] at a;exact a;rw[aJ6 d,aJ6 e,aJ7 c] at a;refine dW (aX (fun b=>zB ?_) (fun b=>?_));show Q _ _;rw[show decide (v<=3)=decide (1<=v/\v<=3) from decide_eq_decide.2 (by omega)];exact a;rw[decide_eq_false (by omega)] at a;exact a;rw[aJ6 d,aJ6 e,aJ6 f,aJ7 c] at a;refine dW (aX (fun b=>zB ?_) (fun b=>?_));show Q _ _;rw[show decide (v<=4)=decide (1<=v/\v<=4) from decide_eq_decide.2 (by omega)];exact a;rw[decide_eq_false (by omega)] at a;exact a;rw[aJ6 d,aJ6 e,aJ6 f,aJ6 g,aJ7 c] at a;refine dW (aX (fun b=>zB ?_) (fun b=>?_));show Q _ _;rw[show decide (v<=many)=decide (0<=v/\v<=many) from decide_eq_decide.2 (by omega)];exact a;rw[decide_eq_false (by omega)] at a;exact a;rw[aJ6 d,aJ6 e,aJ6 f,aJ6 g,aJ6 n5] at a;exact a
def prE (p:Int×Int):List Value:=[I p.1,I p.2]
theorem Kg {x:Ins} (a:Hs G h L) (c:∀p b,Hs G b (aG p 0 x.enc::L)->Q (.func (.func 239) #[] #[pt p 0 0]) b):Cl Pr K 185 [.agg ⟨x.enc⟩] h Q:=by
 exact cW (dR a fun p h a=>c _ _ a)
theorem Nh {x:Ins} {p:Nat} (d:isO x.op=true) (w:Ob G 1 sI):uc Pr K G 239 [] [pt p 0 0] (aG p 0 x.enc) (x.D6.map prE):=by
 intro j J y L h Q a B r t;have A:=of_decide_eq_true d;refine cW ?_;refine aA (aD a rfl (aA (aD a rfl (aA (aD a rfl (aQ (c:=x.Nf.map I) rfl ?_))))));have loop:∀(f i:Nat) (h:AH),i+f=3->Hs G h (aG p 0 x.enc::j ((x.D6.drop i).map prE)::L)->Dd 239 1 [] Q [y,(pt p 0 0),(.agg ⟨x.Nf.map I⟩),(I i)] h:=by
  intro f;induction f with
  |zero=>
   intro i h z a;rw[List.drop_of_length_le (by rw[Ol d];omega)] at a;exact bW (bA (aab (r _ _ a)))
  |succ f D=>
   intro i h z a;obtain⟨q,e,u⟩:=nA (l:=x.D6) (i:=i) (by rw[Ol d];omega);rw[D9 d (by omega)] at e;simp only[Option.some.injEq] at e;rw[u] at a;have k:i=0\/i=1\/i=2:=by omega
   have m:(x.Nf.map I)[i]?=some (I q.2):=by
    rw[<-e];rcases k with rfl|rfl|rfl<;>rfl
   refine bW (bA (aae (bW (cv (by omega) m (aA (aD a rfl (aDe (i:=x.op.toNat) (by omega) (by omega) (aA (fQ (by omega) ?_)))))))));refine zQ a w (o6 (by omega) (by omega)) ?_;have g:(Cm x.op.toNat).getD i 0=q.1:=by rw[<-e]
   rw[g];refine(B _ _ h _ a.lK).mono fun v o g=>?_;rcases g with⟨rfl,b⟩|⟨rfl,b⟩;exact cH (cG (bW (aad (D (i+1) o (by omega) b.lK))));exact cH (eU (t _ _ b.lK))
 exact loop 3 0 h rfl a
abbrev myX (p1 p5:Nat) (many v:Int) (e:Nat->Value) (d l:Nat) (z:LoopState×Option Code) (c:Prop):HP:=sp [B6 c,pH Pr 148 (pD 442) 22 e d l z,aG p5 0 [I many],aG p1 0 [I v]]
theorem Wc {x:Ins} {many:Int} (u:Ob G 1 sI) (a:Hs G h L) (f:∀q,Hs G q L->Q (I (mH x many)) q):Cl Pr K 148 [.agg ⟨x.enc⟩,I many] h Q:=by
 refine cW (dR a fun w h a=>dR a fun g h a=>aA (aD a rfl (mg (cH (eB (dI (fun j=>?_) (fun j=>?_)))))));rotate_left;have:=f h a.tail.tail;unfold mH at this;rw[aJ6 (by rw[j];decide)] at this;exact mB this;unfold mH at f;rw[aJ7 j] at f;refine bW (bQ a fun p1 h a=>ax a fun h a=>aR a (by decide) (l:=x.enc) rfl rfl (Kg a fun p h a=>oF a fun d h a=>?_));intro e t;refine sV a fun l h a=>Ah rfl ?_;have a:Hs G h (aG p 0 x.enc::myX p1 g many 0 e d l (.ready,none) ((([]:List (Int×Int)).all fun p=>An p.1 p.2 many)=true)::mk d ()::L):=by
  refine Hs.lK (yP rfl (Hs.V5 ?_));have a:=a.cZ (pH Pr 148 (pD 442) 22 e d l (.ready,none)) (aG g 0 [I many]) (aG p1 0 [I 0]);exact a.to
 refine(Nh (p:=p) j u).fold (X:=fun done=>myX p1 g many 0 e d l (.ready,none) ((done.all fun p=>An p.1 p.2 many)=true)) (Z:=fun _ y=>myX p1 g many 10 e d l (.done,some (.exit 0)) (An y.1 y.2 many=false)) a ?_ ?_ ?_
 .intro done y h M r a;obtain⟨i,c⟩:=iD a;clear a;have a:=c.D2;refine rW (Aa a) t (lT a fun h a=>am g a rfl (Ti (cH (eB (dI (fun k=>?_) (fun k=>?_))))));refine mD a fun h a=> .inl ⟨rfl,yP ?_ (Hs.V5 a.to)⟩;rw[List.all_append,i];simp[k];refine ax (b:=p1) (o:=0) a fun h a=>mD a fun h a=> .inr ⟨rfl,yP k (Hs.V5 ?_)⟩;exact a.to
 intro v h a;have a:=a.front (myX p1 g many 0 e d l (.ready,none) ((x.D6.all fun p=>An p.1 p.2 many)=true));obtain⟨i,c⟩:=iD a;clear a;have a:=c.D2;rw[aJ7 i] at f;exact tR a fun h a=>tA (am p1 a rfl (oT a fun h a=>mB (f _ a.to)))
 .intro done y v h r a;have a:=a.front (myX p1 g many 10 e d l (.done,some (.exit 0)) (An y.1 y.2 many=false));obtain⟨i,c⟩:=iD a;clear a;have a:=c.D2;rw[aJ6 ?_] at f;exact Ml a fun h a=>Qp rfl (am p1 a rfl (oT a fun h a=>mB (f _ a.to)));obtain⟨z,m⟩:=r;rw[<-m];simp[i]
theorem Jf {t:Value} {p:List Ins} {_v0 v1:Value} {e:TypeId} (k:v1=I p.length) (v:p.length<=32) (o:Ob G 1 sI) (d:∀g,Hs G g (Ae G 4 e t (p.map Ins.enc)::L)->Q (.tuple ⟨[I (kL p).1,I (kL p).2]⟩) g):
  ∀(f i:Nat) (h:AH),i+f=p.length->kL p=mv p.length (p.drop i) i->Hs G h (Ae G 4 e t (p.map Ins.enc)::L)->Dd 91 2 [] Q [t,t,v1,(I i)] h:=by
 subst k
 intro f
 induction f with
 |zero=>
  intro i h q b a
  rw[List.drop_of_length_le (by omega)] at b
  rw[b] at d
  exact bW (bA (aab (d _ a)))
 |succ f u=>
  intro i h q b a
  obtain⟨x,r,m⟩:=nA (l:=p) (i:=i) (by omega)
  rw[m,mv] at b
  obtain⟨y,z,j⟩:=wM a
  refine bW (bA (aae (bW (zh a (by decide) (i:=i) (x:=x.enc) (by simp[r]) (bQ a fun w h a=>?_)))))
  refine ax a fun h a=>aR a (by decide) (l:=x.enc) rfl rfl ?_
  rw[j]
  refine bU ?_
  rw[<-j,List.length_map]
  refine Wc o a fun h a=>bC (aX (fun c=>?_) (fun c=>?_))
  .rw[aJ7 c] at b;rw[b] at d;exact aad (d _ a.tail)
  .rw[aJ6 c] at b;exact bW (aad (u (i+1) h (by omega) b a.tail))
theorem Ei {t:Value} {p:List Ins} {e:TypeId} (f:Ob G 1 sI) (b:Hs G h (Ae G 4 e t (p.map Ins.enc)::L)) (a:∀d,Hs G d (Ae G 4 e t (p.map Ins.enc)::L)->Q (.tuple ⟨[I (kL p).1,I (kL p).2]⟩) d):
  Cl Pr K 91 [t] h Q:=by
 obtain⟨i,j,g⟩:=wM b
 have len:∀{k:Value->Prop},k (I p.length)->bG (kU t) k:=fun a=>by
  rw[g];refine bU ?_;rw[List.length_map];exact a
 refine cW (len (mC (aX (fun c=>?_) (fun c=>?_))))
 .have:=a h b;unfold kL at this;rw[aac] at this;exact this
 .refine bW (len (Jf (_v0:=t) rfl (by omega) f a p.length 0 h (by omega) ?_ b));unfold kL;rw[aaa];rfl
end
end Go.Proofs.YtajjljbmfdboaaaGreatDoor
namespace Go.At
open Go Go.Ab Go.Hm Go.Is
section
structure Ev where
 core:Int
 at':Int
 op:Int
 world:Int
 word:Int
 value:Int
 code:Int
 deriving DecidableEq
def Ev.enc (x:Ev):List Value:=[I x.core,I x.at',I x.op,I x.world,I x.word,I x.value,I x.code]
def Ga:Ev:=⟨0,0,0,0,0,0,0⟩
structure aK where
 cB:Nat->Int
 at':Int
 world:Int
 over:Bool
 prog:List Ins
def aK.core (s:aK):List Value:=[I (s.cB 0),I (s.cB 1),I (s.cB 2),I (s.cB 3),I s.at',I s.world,.bool s.over]
def kI (p:List Ins) (a:Int):Ins:=p.getD a.toNat ⟨0,0,0,0⟩
def Cg (p:List Ins) (a:Int):Bool:=if(p.length:Int)<=a then true else decide ((kI p a).op=11)
def aK.fM (s:aK) (a:Int):aK:={s with at':=a,over:=Cg s.prog a}
def aK.cR (s:aK) (i v:Int):aK:={s with cB:=aS s.cB i.toNat v}
def aK.Qv (s:aK) (v:Int):aK:={s with world:=v}
def rU (mem:Nat->Ln) (w:Nat):Int:=if w % 2=0 then(mem (w/2)).1 else(mem (w/2)).2
def vW (mem:Nat->Ln) (w:Nat) (v:Int):Nat->Ln:=aS mem (w/2) (if w % 2=0 then(v,(mem (w/2)).2) else((mem (w/2)).1,v))
def jZ (mem:Nat->Ln) (g:Nat):Nat->Ln:=aS (aS mem (g*2) (0,0)) (g*2+1) (0,0)
structure AM where
 cfg:bP
 aC:Nat->aK
 bL:List Int
 mem:Nat->Ln
def AM.iZ (m:AM) (i:Nat) (s:aK):AM:={m with aC:=aS m.aC i s}
def AM.iY (m:AM) (mem:Nat->Ln):AM:={m with mem:=mem}
def AM.B8 (m:AM) (o:List Int):AM:={m with bL:=o}
def yV (world owner:Int):Bool:=if 0<=world/\world<=3/\0<=owner/\owner<=4 then decide (world=0\/owner=world\/owner=4) else false
def AM.may (m:AM) (world word:Int):Bool:=if 0<=word/\word<m.cfg.lines*2 then yV world (m.bL.getD (word.toNat/4) 0) else false
def AM.access (m:AM) (i:Nat) (x:Ins):AM×Int×Int:=
 if m.may (m.aC i).world ((m.aC i).cB x.b.toNat) then
  if x.op=3 then(m.iZ i ((m.aC i).cR x.a (rU m.mem ((m.aC i).cB x.b.toNat).toNat)),rU m.mem ((m.aC i).cB x.b.toNat).toNat,0)
  else if x.op=4 then(m.iY (vW m.mem ((m.aC i).cB x.b.toNat).toNat ((m.aC i).cB x.a.toNat)),(m.aC i).cB x.a.toNat,0)
  else((m.iY (vW m.mem ((m.aC i).cB x.b.toNat).toNat ((m.aC i).cB x.a.toNat))).iZ i ((m.aC i).cR x.a (rU m.mem ((m.aC i).cB x.b.toNat).toNat)),rU m.mem ((m.aC i).cB x.b.toNat).toNat,0)
 else(m,0,19)
def fL (call world owner to:Int):Int×Bool×Int:=
 if ¬((0<=world/\world<=3)/\(0<=owner/\owner<=4)) then(0,false,10)
 else if call=1 then(if world≠0 then(0,false,18) else if owner≠0 then(0,false,16) else if ¬(1<=to/\to<=3) then(0,false,1) else(to,true,0))
 else if call=2 then(if owner=0 then(0,false,16) else if world≠0/\world≠owner then(0,false,18) else(0,true,0))
 else if call=3 then(if world=0\/world≠owner then(0,false,18) else if ¬(1<=to/\to<=3)\/to=owner then(0,false,1) else(to,true,0))
 else if call=4 then(if owner=4 then(0,false,16) else if world≠owner then(0,false,18) else(4,false,0))
 else(0,false,15)
def AM.call (m:AM) (call world a to:Int) (busy:Bool):AM×Int:=
 if ¬(0<=a/\a<m.bL.length) then(m,10)
 else if busy then(m,17)
 else if(fL call world (m.bL.getD a.toNat 0) to).2.2≠0 then(m,(fL call world (m.bL.getD a.toNat 0) to).2.2)
 else((m.B8 (m.bL.set a.toNat (fL call world (m.bL.getD a.toNat 0) to).1)).iY (if(fL call world (m.bL.getD a.toNat 0) to).2.1 then jZ m.mem a.toNat else m.mem),0)
def AM.fM (m:AM) (i:Nat) (a:Int):AM:=m.iZ i ((m.aC i).fM a)
def AM.gI (m:AM) (i:Nat) (x:Ins) (busy:Bool):AM×Int×Int×Int×Int:=
 if x.op=1 then(m.iZ i ((m.aC i).cR x.a x.b),0,x.b,0,(m.aC i).at'+1)
 else if x.op=2 then(m.iZ i ((m.aC i).cR x.a (wr ((m.aC i).cB x.b.toNat+(m.aC i).cB x.c.toNat))),0,wr ((m.aC i).cB x.b.toNat+(m.aC i).cB x.c.toNat),0,(m.aC i).at'+1)
 else if x.op=3\/x.op=4\/x.op=5 then((m.access i x).1,(m.aC i).cB x.b.toNat,(m.access i x).2.1,(m.access i x).2.2,(m.aC i).at'+1)
 else if x.op=7 then(if(m.aC i).world=0 then(m.iZ i ((m.aC i).Qv x.a),0,x.a,0,(m.aC i).at'+1) else(m,0,x.a,18,(m.aC i).at'+1))
 else if x.op=8 then((m.call x.a (m.aC i).world ((m.aC i).cB x.b.toNat) ((m.aC i).cB x.c.toNat) busy).1.iZ i ((m.aC i).cR x.b (m.call x.a (m.aC i).world ((m.aC i).cB x.b.toNat) ((m.aC i).cB x.c.toNat) busy).2),(m.aC i).cB x.b.toNat,(m.aC i).cB x.c.toNat,(m.call x.a (m.aC i).world ((m.aC i).cB x.b.toNat) ((m.aC i).cB x.c.toNat) busy).2,(m.aC i).at'+1)
 else if x.op=9 then(m,0,x.a,0,x.a)
 else if x.op=10 then(m,0,(m.aC i).cB x.a.toNat,0,if(m.aC i).cB x.a.toNat=0 then x.b else(m.aC i).at'+1)
 else(m,0,0,0,(m.aC i).at'+1)
def AM.step (m:AM) (core:Int) (busy:Bool):AM×Ev×Int:=
 if ¬(0<=core/\core<m.cfg.aE) then(m,Ga,10)
 else if(m.aC core.toNat).over then(m,Ga,20)
 else
  let s:=m.aC core.toNat
  let x:=kI s.prog s.at'
  let r:=m.gI core.toNat x busy
  (r.1.fM core.toNat r.2.2.2.2,⟨core,s.at',x.op,s.world,r.2.1,r.2.2.1,r.2.2.2.1⟩,0)
def aK.Ok (s:aK):Prop:=0<=s.at'/\s.at'<=32/\s.over=Cg s.prog s.at'/\s.prog.length<=32/\∀x∈s.prog,mH x s.prog.length=0
structure AM.Ok (m:AM):Prop where
 cfg:m.cfg.Ok
 aC:∀i:Nat,(i:Int)<m.cfg.aE->(m.aC i).Ok
 bL:(m.bL.length:Int)=m.cfg.aN
def tN:List (List Ins)->Int
 |[]=>0
 |p::l=>if(kL p).2≠0 then(kL p).2 else tN l
def within (a b:Int) (l:List Int):Bool:=l.all fun x=>decide (a<=x/\x<=b)
def oI (C:bP) (ps:List (List Ins)) (ws os vs:List Int):Int:=
 if ¬C.Ok then 10
 else if(ps.length:Int)≠C.aE\/(ws.length:Int)≠C.aE\/(os.length:Int)≠C.aN\/vs.length≠C.lines*2 then 1
 else if tN ps≠0 then tN ps
 else if ¬(within 0 3 ws=true/\within 0 4 os=true) then 10
 else 0
def words (mem:Nat->Ln):List Int->Nat->Nat->Ln
 |[],_=>mem
 |v::l,i=>words (vW mem i v) l (i+1)
def tT (p:List Ins) (w:Int):aK:={cB:=fun _=>0,at':=0,world:=w,over:=Cg p 0,prog:=p}
def rM (C:bP) (ps:List (List Ins)) (ws os vs:List Int):AM:=⟨C,fun i=>tT (ps.getD i []) (ws.getD i 0),os,words nH vs 0⟩
def dJ (x:Ev):Bool:=decide (x.code=17)
def oC (m:AM) (x:Ev):Int:=if(m.step x.core (dJ x)).2.2=20 then 20 else if(m.step x.core (dJ x)).2.2≠0\/(m.step x.core (dJ x)).2.1≠x then 16 else 0
def dA:AM->List Ev->Nat->AM×Nat×Int
 |m,[],n=>(m,n,0)
 |m,x::l,n=>if oC m x≠0 then(m,n,oC m x) else dA (m.step x.core (dJ x)).1 l (n+1)
theorem E7 {m:AM} {i:Nat} {x:Ins}:(m.access i x).1.cfg=m.cfg/\(m.access i x).1.bL=m.bL/\(∀j,j≠i->(m.access i x).1.aC j=m.aC j)/\((m.access i x).1.aC i).prog=(m.aC i).prog/\((m.access i x).1.aC i).at'=(m.aC i).at':=by
 unfold AM.access;repeat' split
 all_goals simp only[AM.iZ,AM.iY,cJ,aK.cR,true_and,and_true,and_self]
 all_goals first|(intro j a;rw[cF a])|skip
 all_goals simp
theorem tI {m:AM} {c w g t:Int} {b:Bool}:(m.call c w g t b).1.cfg=m.cfg/\(m.call c w g t b).1.bL.length=m.bL.length/\(m.call c w g t b).1.aC=m.aC:=by
 unfold AM.call;repeat' split
 all_goals simp[AM.B8,AM.iY]
theorem sU {m:AM} {i:Nat} {x:Ins} {b:Bool}:(m.gI i x b).1.cfg=m.cfg/\(m.gI i x b).1.bL.length=m.bL.length/\(∀j,j≠i->(m.gI i x b).1.aC j=m.aC j)/\((m.gI i x b).1.aC i).prog=(m.aC i).prog:=by
 have a:=E7 (m:=m) (i:=i) (x:=x);have d:=tI (m:=m) (c:=x.a) (w:=(m.aC i).world) (g:=(m.aC i).cB x.b.toNat) (t:=(m.aC i).cB x.c.toNat) (b:=b);unfold AM.gI;repeat' split
 all_goals first
  |exact⟨a.1,by rw[a.2.1],a.2.2.1,a.2.2.2.1⟩
  |(refine⟨d.1,d.2.1,fun j e=>?_,?_⟩
    .simp only[AM.iZ,cF e,d.2.2]
    .simp only[AM.iZ,cJ,aK.cR])
  |exact⟨rfl,rfl,fun _ _=>rfl,rfl⟩
  |(refine⟨rfl,rfl,fun j e=>?_,?_⟩
    .simp only[AM.iZ,cF e]
    .simp only[AM.iZ,cJ,aK.cR,aK.Qv])
theorem Te {x:Ins} {n:Int} (h:mH x n=0):(1<=x.op/\x.op<12)/\An ((Cm x.op.toNat).getD 0 0) x.a n=true/\An ((Cm x.op.toNat).getD 1 0) x.b n=true/\An ((Cm x.op.toNat).getD 2 0) x.c n=true:=by
 unfold mH at h;split at h;rename_i b;split at h;rename_i c;have a:=List.all_eq_true.1 c;refine⟨of_decide_eq_true b,?_,?_,?_⟩;exact a _ (List.mem_of_getElem? (D9 b (i:=0) (by omega)));exact a _ (List.mem_of_getElem? (D9 b (i:=1) (by omega)));exact a _ (List.mem_of_getElem? (D9 b (i:=2) (by omega)));cases h;cases h
structure Fits (x:Ins) (n:Int):Prop where
 r1:x.op=1\/x.op=2\/x.op=3\/x.op=4\/x.op=5\/x.op=10->0<=x.a/\x.a<4
 r2:x.op=2\/x.op=3\/x.op=4\/x.op=5\/x.op=8->0<=x.b/\x.b<4
 r3:x.op=2\/x.op=8->0<=x.c/\x.c<4
 p1:x.op=9->0<=x.a/\x.a<=n
 p2:x.op=10->0<=x.b/\x.b<=n
theorem D5 {x:Ins} {n:Int} (h:mH x n=0):Fits x n:=by
 obtain⟨_,a,b,c⟩:=Te h;refine⟨fun e=>?_,fun e=>?_,fun e=>?_,fun e=>?_,fun e=>?_⟩;rcases e with e|e|e|e|e|e<;>rw[e] at a<;>exact of_decide_eq_true a;rcases e with e|e|e|e|e<;>rw[e] at b<;>exact of_decide_eq_true b;rcases e with e|e<;>rw[e] at c<;>exact of_decide_eq_true c;rw[e] at a;exact of_decide_eq_true a;rw[e] at b;exact of_decide_eq_true b
theorem E0 {p:List Ins} {a:Int} (h:Cg p a=false):a<p.length:=by
 unfold Cg at h;split at h;cases h;omega
theorem zP {p:List Ins} {a:Int} (b:0<=a) (h:a<p.length):kI p a∈p:=by
 unfold kI;rw[List.getD_eq_getElem?_getD,List.getElem?_eq_getElem (by omega)];exact List.getElem_mem _
theorem Pb {m:AM} {i:Nat} {x:Ins} {b:Bool} {n:Int} (a:Fits x n) (c:0<=(m.aC i).at') (d:(m.aC i).at'<n):0<=(m.gI i x b).2.2.2.2/\(m.gI i x b).2.2.2.2<=n:=by
 unfold AM.gI;repeat' split
 all_goals first
  |(have:=a.p1 ‹_›;omega)
  |skip
 all_goals simp only[]
 all_goals first
  |omega
  |(have:=a.p2 ‹_›;omega)
theorem Jl {m:AM} {c:Int} {b:Bool}:(m.step c b).1.cfg=m.cfg:=by
 unfold AM.step;split;rfl;split;rfl;exact(sU (m:=m)).1
theorem cn {m:AM} (f:m.Ok) (c:Int) (b:Bool):(m.step c b).1.Ok:=by
 unfold AM.step;split;exact f;rename_i z;split;exact f;rename_i r;obtain⟨n,rfl⟩:∃n:Nat,c=n:=⟨c.toNat,by omega⟩;have d:=f.aC n (by omega);simp only[Int.toNat_natCast] at r ⊢;obtain⟨q,v,w,y⟩:=sU (m:=m) (i:=n) (x:=kI (m.aC n).prog (m.aC n).at') (b:=b);have g:=E0 (p:=(m.aC n).prog) (a:=(m.aC n).at') (by rw[<-d.2.2.1];simpa using r);have t:=D5 (d.2.2.2.2 _ (zP d.1 g));have o:=Pb (m:=m) (i:=n) (b:=b) t d.1 g;refine⟨?_,fun j u=>?_,?_⟩;show(AM.gI m n _ b).1.cfg.Ok;rw[q];exact f.cfg;have l:(j:Int)<m.cfg.aE:=by rw[<-q];exact u
 by_cases e:j=n;subst e;have k:((m.gI j (kI (m.aC j).prog (m.aC j).at') b).1.fM j (m.gI j (kI (m.aC j).prog (m.aC j).at') b).2.2.2.2).aC j=((m.gI j (kI (m.aC j).prog (m.aC j).at') b).1.aC j).fM (m.gI j (kI (m.aC j).prog (m.aC j).at') b).2.2.2.2:=cJ;rw[k];unfold aK.Ok aK.fM;simp only[y];exact⟨o.1,by have:=d.2.2.2.1;omega,trivial,d.2.2.2.1,d.2.2.2.2⟩;have k:((m.gI n (kI (m.aC n).prog (m.aC n).at') b).1.fM n (m.gI n (kI (m.aC n).prog (m.aC n).at') b).2.2.2.2).aC j=(m.gI n (kI (m.aC n).prog (m.aC n).at') b).1.aC j:=cF e;rw[k,w j e];exact f.aC j l;show(((AM.gI m n _ b).1.bL.length:Nat):Int)=(AM.gI m n _ b).1.cfg.aN;rw[q,v];exact f.bL
end
end Go.At
section
open Go Go.Ab
attribute [local irreducible] bG Br pK sD tZ Cq mN wW lR Rs gX mT rA rG pJ kU zA vE V9 V4 Ro Ps Vv Qm Jp Nb Vm lB oL tX jK copyV iQ xK V7 V8 Hn lG Nc Sp V2 oA rY yU Ao Cl yO Vx tE sC kJ hT setLoop cT
namespace Go.Proofs.YtajjljbmfdboaaaGreatDoor
open Go Go.Ab Go.Hm Go.At
section
set_option maxRecDepth 100000
variable {G:Bg} {h:AH} {L L':List HP} {Q:Value->AH->Prop}
theorem gz {C:bP} (d:Ob G 0 eT) (a:Hs G h L) (b:∀c,Hs G c L->Q (I (if C.Ok then C.lines else 0:Nat)) c):Cl Pr K 63 [.agg ⟨C.enc⟩] h Q:=by
 by_cases hC:C.Ok;rw[aJ7 hC] at b;exact rB hC d a b;rw[aJ6 hC] at b;refine cW ?_;refine dR a ?_;intro p h a;refine aR a (by decide) (l:=C.enc) rfl rfl (nB d a fun h a=>?_);rw[aJ6 hC];exact bC (aae (b _ a.tail))
theorem dn {C:bP} (d:Ob G 0 eT) (a:Hs G h L) (c:∀b,Hs G b L->Q (I ((if C.Ok then C.lines else 0:Nat)*2:Nat)) b):Cl Pr K 90 [.agg ⟨C.enc⟩] h Q:=by
 refine cW (dR a fun p h a=>?_);refine aR a (by decide) (l:=C.enc) rfl rfl (gz d a fun h a=>?_);have e:(if C.Ok then C.lines else 0:Nat)<=32:=by
  split;rename_i hC;exact(bP.fN hC).2.2;omega
 refine Ds (by omega) ?_;have:=c _ a.tail;rw[Int.natCast_mul] at this;exact this
theorem S7 {C:bP} (hC:C.Ok) (c:Ob G 0 eT) (d:Hs G h L) (b:∀a,Hs G a L->Q (I (C.lines*2:Nat)) a):Cl Pr K 90 [.agg ⟨C.enc⟩] h Q:=
 dn c d (by rw[aJ7 hC];exact b)
theorem Gx {C:bP} (hC:C.Ok) {w:Int} (f:Ob G 0 eT) (a:Hs G h L)
  (b:∀c,Hs G c L->Q (if 0<=w/\w<C.lines*2 then .tuple ⟨[I (w.toNat/2:Nat),I (w.toNat % 2:Nat),I 0]⟩ else .tuple ⟨[I 0,I 0,I 10]⟩) c):Cl Pr K 182 [.agg ⟨C.enc⟩,I w] h Q:=by
 refine cW (dR a fun p h a=>bA (aX (fun d=>?_) (fun d=>?_)))
 .have:=b _ a.tail;rw[aaa] at this;exact this
 .refine aR a (by decide) (l:=C.enc) rfl rfl (S7 hC f a fun h a=>dW (aX (fun e=>?_) (fun e=>?_)))
  .have:=b _ a.tail;rw[aaa] at this;exact this
  .have g:=(bP.fN hC).2.2;have:=b _ a.tail;rw[aac] at this;obtain⟨n,rfl⟩:∃n:Nat,w=n:=⟨w.toNat,by omega⟩;refine E3 (by omega) (by omega) (by omega) (Me (by omega) (by omega) ?_);exact this
theorem Y2 {C:bP} (hC:C.Ok) {l:Nat} (e:l<C.lines) (d:Ob G 0 eT) (a:Hs G h L)
  (c:∀b,Hs G b L->Q (.tuple ⟨[I (l/2:Nat),I 0]⟩) b):Cl Pr K 191 [.agg ⟨C.enc⟩,I l] h Q:=by
 have f:=(bP.fN hC).2.2
 refine cW (dR a fun p h a=>bA (aab ?_))
 refine aR a (by decide) (l:=C.enc) rfl rfl (rB hC d a fun h a=>dW (aab ?_))
 exact E3 (by omega) (by omega) (by omega) (c _ a.tail)
theorem De {C:bP} {g:Int} (a:Hs G h L) (c:∀p q b,Hs G b (sp [aG p 0 C.enc,aG q 0 [I g]]::L)->Q (.func (.func 167) #[] #[pt p 0 0,pt q 0 0]) b):Cl Pr K 120 [.agg ⟨C.enc⟩,I g] h Q:=
 cW (dR a fun p _ a=>dR a fun q h a=>c p q h (Hs.Hu a.lK))
theorem G2 {C:bP} (hC:C.Ok) {g:Nat} (E:(g:Int)<C.aN) {p q:Nat} (u:Ob G 0 eT):uc Pr K G 167 [] [pt p 0 0,pt q 0 0] (sp [aG p 0 C.enc,aG q 0 [I g]]) ([g*2,g*2+1].map fun l:Nat=>[I l]):=by
 intro d J y L h Q a A k m;have D:C.aN<=16:=hC.2.1.2;have a:=a.G5;refine cW (aR a (by decide) (l:=C.enc) rfl rfl (nB u a fun h a=>?_));rw[aJ7 hC];refine bC (aab (am q a rfl (bA (aab (am q a rfl (aA (am p a rfl (dW (aab (bW ?_))))))))));have loop:∀(f i:Nat) (h:AH),i+f=2->Hs G h (aG p 0 C.enc::aG q 0 [I g]::d (([g*2,g*2+1].drop i).map fun l:Nat=>[I l])::L)->Dd 167 2 [] Q [y,(pt q 0 0),(I i)] h:=by
  intro f;induction f with
  |zero=>
   intro i h t a;obtain rfl:i=2:=by omega
   exact bW (bA (aab (k _ _ (Hs.Hu a))))
  |succ f B=>
   intro i h t a;refine bW (bA (aae (bW (am q a rfl (Ds (by omega) (aad ?_))))));obtain⟨x,z,r⟩:=nA (l:=[g*2,g*2+1]) (i:=i) (by simp;omega);have e:i=0\/i=1:=by omega
   have ex:x=g*2+i:=by rcases e with rfl|rfl<;>simp at z<;>omega
   rw[r,List.map_cons] at a;rw[show((g:Int)*2+(i:Int))=((x:Nat):Int) by omega];refine(A _ _ h _ (a.front (d ([I (x:Nat)]::([g*2,g*2+1].drop (i+1)).map fun l:Nat=>[I l])))).mono fun v j w=>?_;rcases w with⟨rfl,c⟩|⟨rfl,c⟩;exact cH (cG (bW (aad (B (i+1) j (by omega) c.to))));exact cH (eU (m _ _ (Hs.Hu c.to)))
 exact loop 2 0 h rfl a
theorem Fm {o:Int} (a:Q (.bool (decide (0<=o/\o<=4))) h):Cl Pr K 183 [I o] h Q:=by
 refine cW (dW (aX (fun b=>zB ?_) (fun b=>?_)));show Q _ _;rw[show decide (o<=4)=decide (0<=o/\o<=4) from decide_eq_decide.2 (by omega)];exact a;show Q _ _;rw[show false=decide (0<=o/\o<=4) from(decide_eq_false (by omega)).symm];exact a
theorem Qg {w o:Int} (a:Q (.bool (yV w o)) h):Cl Pr K 243 [I w,I o] h Q:=by
 unfold yV at a;refine cW (bA (aX (fun d=>?_) (fun d=>mC (aX (fun e=>?_) (fun e=>Fm (cH (eB (aX (fun f=>?_) (fun f=>?_)))))))));rw[aaa] at a;exact a;rw[aaa] at a;exact a;rw[aac] at a;refine bH (aX (fun b=>?_) (fun b=>bH (aX (fun c=>?_) (fun c=>bH ?_))));rw[decide_eq_true (.inl b)] at a;exact a;rw[decide_eq_true (.inr (.inl c))] at a;exact a;rw[show decide (w=0\/o=w\/o=4)=decide (o=4) from decide_eq_decide.2 (by omega)] at a;exact a;rw[aaa] at a;exact a
end
end Go.Proofs.YtajjljbmfdboaaaGreatDoor
end
namespace Go.Hm
open Go Go.Ab
section
structure aJ where
 kind:Int
 core:Int
 line:Int
 world:Int
 state:Int
 d0:Int
 d1:Int
 jU:Bool
 no:Int
 deriving DecidableEq
def aJ.enc (n:aJ):List Value:=[I n.kind,I n.core,I n.line,I n.world,I n.state,I n.d0,I n.d1,.bool n.jU,I n.no]
def aJ.zero:aJ:=⟨0,0,0,0,0,0,0,false,0⟩
def eM (l:List aJ):List Value:=l.flatMap aJ.enc
theorem xL (l m:List aJ):eM (l++m)=eM l++eM m:=by simp[eM]
@[simp] theorem J4 (n:aJ) (l:List aJ):eM (n::l)=n.enc++eM l:=rfl
@[simp] theorem Pm:eM []=[]:=rfl
structure Row where
 owner:Int
 sh:Nat->Bool
 waits:List aJ
 busy:Bool
 served:aJ
 world:Int
 asked:Nat->Bool
 granted:Bool
 told:Bool
 d0:Int
 d1:Int
def Row.enc (r:Row) (a:Option Addr) (c:Nat):List Value:=
 [I r.owner,.bool (r.sh 0),.bool (r.sh 1),.bool (r.sh 2),.bool (r.sh 3),.slice a r.waits.length c,.bool r.busy,I r.served.kind,I r.served.core,I r.served.line,I r.served.world,I r.served.state,I r.served.d0,I r.served.d1,.bool r.served.jU,I r.served.no,
   I r.world,.bool (r.asked 0),.bool (r.asked 1),.bool (r.asked 2),.bool (r.asked 3),.bool r.granted,.bool r.told,I r.d0,I r.d1]
def Row.Wz (r:Row):List Value:=[I r.owner,.bool (r.sh 0),.bool (r.sh 1),.bool (r.sh 2),.bool (r.sh 3)]
def Row.Jy (r:Row) (a:Option Addr) (c:Nat):List Value:=
 [.slice a r.waits.length c,.bool r.busy,I r.served.kind,I r.served.core,I r.served.line,I r.served.world,I r.served.state,I r.served.d0,I r.served.d1,.bool r.served.jU,I r.served.no,
   I r.world,.bool (r.asked 0),.bool (r.asked 1),.bool (r.asked 2),.bool (r.asked 3),.bool r.granted,.bool r.told,I r.d0,I r.d1]
theorem Row.kq (r:Row) (a:Option Addr) (c:Nat):r.enc a c=r.Wz++r.Jy a c:=rfl
def gO (f:Nat->Bool) (i:Int) (v:Bool):Nat->Bool:=fun j=>if(j:Int)=i then v else f j
def Row.free (r:Row):Row:={r with busy:=false,granted:=false,told:=false,served:=aJ.zero,world:=0,d0:=0,d1:=0}
def Row.leave (r:Row) (core:Int):Row:={r with sh:=gO r.sh core false,owner:=if r.owner=core then -1 else r.owner}
def Row.holds (r:Row) (but:Int) (i:Nat):Bool:=decide ((i:Int)≠but)&&(r.sh i||decide ((i:Int)=r.owner))
theorem oe {r:Row} {x:Int} {i:Nat} (h:(i:Int)≠x) (a:r.sh i=true):r.holds x i=true:=by simp[Row.holds,h,a]
theorem qs {r:Row} {x:Int} {i:Nat} (h:(i:Int)≠x) (a:(i:Int)=r.owner):r.holds x i=true:=by
 unfold Row.holds;rw[decide_eq_true h,decide_eq_true a];simp
theorem bz {r:Row} {x:Int} {i:Nat} (h:(i:Int)=x):r.holds x i=false:=by
 unfold Row.holds;rw[decide_eq_false (by simpa using h)];rfl
theorem Zl {r:Row} {x:Int} {i:Nat} (h:r.sh i=false) (a:(i:Int)≠r.owner):r.holds x i=false:=by
 unfold Row.holds;rw[h,decide_eq_false a];simp
def Row.sW (r:Row) (but:Int):Nat->Nat->Int
 |0,_=> -1
 |f+1,i=>if r.holds but i then i else r.sW but f (i+1)
def Row.first (r:Row) (but:Int):Int:=r.sW but 4 0
def Row.fB (r:Row) (but:Int):Nat->Nat->List Nat
 |0,_=>[]
 |f+1,i=>if r.holds but i then i::r.fB but f (i+1) else r.fB but f (i+1)
def Row.gC (r:Row) (but:Int):List Nat:=r.fB but 4 0
def Row.hJ (r:Row) (l:List Nat):Row:={r with asked:=fun j=>r.asked j||l.contains j}
def eG (line state:Int) (l:List Nat):List aJ:=l.map fun(i:Nat)=>{aJ.zero with kind:=11,core:=(i:Int),line:=line,state:=state}
def Row.quiet (r:Row):Bool:= !(r.asked 0||r.asked 1||r.asked 2||r.asked 3)
abbrev mA:=Row×Ln
def Row.sP (r:Row) (m:Ln):Ln:=if r.told then(r.d0,r.d1) else m
def Row.jW (r:Row) (line st:Int) (d:Ln):aJ:=⟨8,r.served.core,line,r.world,st,d.1,d.2,false,0⟩
def Row.eE (r:Row) (line:Int) (d:Ln):Row×List aJ:=
 if r.served.kind=2 then({r with owner:=r.served.core,sh:=fun _=>false,granted:=true},[r.jW line 4 d])
 else if r.first r.served.core= -1 then({r with owner:=r.served.core,sh:=gO r.sh r.served.core false,granted:=true},[r.jW line 2 d])
 else({r with sh:=gO r.sh r.served.core true,granted:=true},[r.jW line 1 d])
def valid (s:Int):Bool:=decide (0<=s/\s<5)&&decide (s≠0)
def Row.eY (r:Row) (n:aJ):Row:={r with asked:=gO r.asked n.core false}
def Row.Dg (r:Row) (n:aJ):Row:={r with owner:= -1,sh:=gO r.sh n.core (valid n.state)}
def Row.lC (r:Row) (n:aJ):Row:={r with told:=true,d0:=n.d0,d1:=n.d1}
def Row.heard (r:Row) (n:aJ):Row:=
 if r.served.kind≠1 then(r.eY n).leave n.core
 else if n.state≠3 then(if n.jU then((r.eY n).Dg n).lC n else(r.eY n).Dg n)
 else if n.jU then(r.eY n).lC n else r.eY n
def Row.vJ (r:Row) (m:Ln) (n:aJ):Ln:=if r.served.kind≠1/\n.jU=true then(n.d0,n.d1) else m
def Row.rest (r:Row) (line:Int) (m:Ln):Row×List aJ:=
 if r.quiet then(if r.served.kind=0 then(r.free,[]) else r.eE line (r.sP m)) else(r,[])
def mA.mW (x:mA) (line:Int) (n:aJ):mA×List aJ:=
 let m:=x.1.vJ x.2 n
 let g:=(x.1.heard n).rest line m
 ((g.1,m),g.2)
def Row.serve (r:Row) (n:aJ) (world:Int):Row:={r with busy:=true,served:=n,world:=world}
def Row.getM (r:Row) (line:Int) (m:Ln):Row×List aJ:=
 if r.first r.served.core≠ -1 then(r.hJ (r.gC r.served.core),eG line 0 (r.gC r.served.core)) else r.eE line (r.sP m)
def Row.Tq (r:Row) (line:Int) (m:Ln):Row×List aJ:=
 if r.owner≠ -1 then(r.hJ [r.owner.toNat],eG line 1 [r.owner.toNat]) else r.eE line (r.sP m)
def Row.nQ (r:Row):Row:=if r.owner=r.served.core then {r with owner:= -1} else r
def Row.get (r:Row) (line:Int) (m:Ln) (n:aJ) (world:Int):Row×List aJ:=
 let r:=r.serve n world
 if n.kind=2 then r.getM line m else r.nQ.Tq line m
def Row.wait (r:Row) (n:aJ):Row:={r with waits:=r.waits++[n]}
def Row.next (r:Row) (w:List aJ):Row:={r with waits:=w}
def Row.Mn (r:Row) (n:aJ):Row:={r with busy:=true,served:=n}
def mA.take (x:mA) (line:Int) (n:aJ):mA×List aJ×Int:=
 if n.kind=4 then(if x.1.granted=false\/x.1.served.core≠n.core then(x,[],16) else((x.1.free,x.2),[],0))
 else if n.kind=5 then(if x.1.asked n.core.toNat=false then(x,[],16) else let g:=mA.mW x line n;(g.1,g.2,0))
 else((x.1.wait n,x.2),[],0)
def mS (line:Int):aJ:={aJ.zero with line:=line}
def mA.wo (x:mA) (line:Int):mA:=(x.1.wait (mS line),x.2)
def mP (kind core line:Int):aJ:={aJ.zero with kind:=kind,core:=core,line:=line}
def Row.begun (r:Row) (line:Int) (m:Ln) (n:aJ) (j:Int->Int×Bool):mA×List aJ:=
 if n.kind=3 then((r.leave n.core,if r.owner=n.core/\n.jU=true then(n.d0,n.d1) else m),[mP 10 n.core line])
 else if n.kind=1\/n.kind=2 then(if(j n.world).2=true then let g:=r.get line m n (j n.world).1;((g.1,m),g.2) else((r,m),[mP 9 n.core line]))
 else if r.first (-1)= -1 then((r,m),[])
 else(((r.Mn n).hJ (r.gC (-1)),m),eG line 0 (r.gC (-1)))
def mA.begin (x:mA) (line:Int) (j:Int->Int×Bool):mA×List aJ×Int:=
 if x.1.busy=true then(x,[],16)
 else match x.1.waits with
  |[]=>(x,[],12)
  |n::w=>let g:=Row.begun (x.1.next w) line x.2 n j;(g.1,g.2,0)
abbrev kK:=Nat->mA
def wO:Row:=⟨-1,fun _=>false,[],false,aJ.zero,0,fun _=>false,false,false,0,0⟩
theorem Hz {r:Row} {x:Int}:∀(f i:Nat),i+f=4->(∀c∈r.fB x f i,c<4)/\(r.fB x f i).length<=f:=by
 intro f;induction f with
 |zero=>intro i d;simp[Row.fB]
 |succ f e=>
  intro i d;obtain⟨b,g⟩:=e (i+1) (by omega);unfold Row.fB;split;refine⟨fun c a=>?_,by simp;omega⟩;rcases List.mem_cons.1 a with rfl|a;omega;exact b c a;exact⟨b,by omega⟩
theorem Yg {r:Row} {x:Int}:∀c∈r.gC x,c<4:=(Hz 4 0 rfl).1
theorem uO {r:Row} {x:Int}:(r.gC x).length<=4:=(Hz 4 0 rfl).2
def bP.has (C:bP) (l:Int):Prop:=0<=l/\l<C.lines
instance (C:bP) (l:Int):Decidable (C.has l):=by unfold bP.has;infer_instance
def fI (k:Int):Prop:=k=1\/k=2\/k=3\/k=4\/k=5
instance (k:Int):Decidable (fI k):=by unfold fI;infer_instance
def kK.at (H:kK) (l:Int):mA:=H l.toNat
def fD (C:bP) (H:kK) (n:aJ):kK×List aJ×Int:=
 if ¬fI n.kind then(H,[],15)
 else if(0<=n.core/\n.core<C.aE)/\C.has n.line then(aS H n.line.toNat (mA.take (H n.line.toNat) n.line n).1,(mA.take (H n.line.toNat) n.line n).2)
 else(H,[],10)
def jA (C:bP) (H:kK) (l:Int):kK×Int:=if C.has l then(aS H l.toNat (mA.wo (H l.toNat) l),0) else(H,10)
def hU (C:bP) (H:kK) (l:Int) (j:Int->Int×Bool):kK×List aJ×Int:=
 if C.has l then(aS H l.toNat (mA.begin (H l.toNat) l j).1,(mA.begin (H l.toNat) l j).2) else(H,[],10)
structure Row.Inv (r:Row):Prop where
 core:0<=r.served.core/\r.served.core<4
 owner: -1<=r.owner/\r.owner<4
 waits:∀n∈r.waits,0<=n.core/\n.core<4
def yC (C:bP) (H:kK) (N:Nat):Prop:=∀l,l<C.lines->(H l).1.Inv/\(H l).1.waits.length<=N
def rR (n:Nat):kK:=fun i=>if i<n then(wO,(0,0)) else({wO with owner:=0},(0,0))
theorem ma {n:Nat}:aS (rR n) n (wO,(0,0))=rR (n+1):=by
 funext i;unfold aS rR;by_cases h:i=n;rw[aJ7 h,aac];rw[aJ6 h];by_cases a:i<n;rw[aJ7 a,aac];rw[aJ6 a,aaa]
def aJ.fits (n r:aJ) (len:Nat):Prop:=
 n.line=r.line/\n.no=0/\((n.kind=8/\n.core=r.core/\len=1/\(r.kind=1\/r.kind=2))\/(n.kind=9/\n.world=0/\n.core=r.core/\len=1/\(r.kind=1\/r.kind=2))\/
  (n.kind=10/\n.world=0/\n.core=r.core/\len=1/\r.kind=3)\/(n.kind=11/\n.world=0/\n.core≠r.core/\(r.kind=1\/r.kind=2\/(r.kind=0/\n.state=0))))
end
end Go.Hm
namespace Go.Ct
open Go Go.Ab Go.Hm
section
def Ny (s:Int):Bool:=decide (1<=s/\s<=4)
def tP (s:Int):Bool:=decide (s=2\/s=4)
def jF (s:Int):Bool:=decide (s=3\/s=4)
def C7 (s:Int):Bool:=decide (2<=s/\s<=4)
def ym (s:Int):Bool:=decide (0<=s/\s<5)
def Ig (s:Int):Int:=if s=2 then 1 else if s=4 then 3 else s
def lH (s:Int) (w:Bool):Bool:=if w then tP s else Ny s
structure pI where
 st:Int
 w:Int
 d:Ln
 deriving DecidableEq
def pI.enc (x:pI):List Value:=[I x.st,I x.w,I x.d.1,I x.d.2]
def pI.zero:pI:=⟨0,0,(0,0)⟩
abbrev Th:=Int×pI
def xt (t:Th):List Value:=I t.1::t.2.enc
def eW (l:List Th):List Value:=l.flatMap xt
theorem Bc (l:List Th):(eW l).length=l.length*5:=by
 induction l with
 |nil=>rfl
 |cons a t b=>simp only[eW,List.flatMap_cons,List.length_append] at b ⊢;rw[b];simp[xt,pI.enc];omega
theorem xZ (l:List Th):(eW l).all eF=true:=by
 induction l with
 |nil=>rfl
 |cons a t b=>simp only[eW,List.flatMap_cons,List.all_append,Bool.and_eq_true] at b ⊢;exact⟨rfl,b⟩
theorem j0 (l m:List Th):eW (l++m)=eW l++eW m:=by simp[eW]
theorem Xs (l:List Th) (i:Nat):(eW l).take (i*5)=eW (l.take i):=by
 induction l generalizing i with
 |nil=>simp[eW]
 |cons a t b=>
  cases i with
  |zero=>simp[eW]
  |succ i=>
   have:(i+1)*5=5+i*5:=by omega
   simp only[eW,List.flatMap_cons,List.take_succ_cons] at b ⊢;rw[this,List.take_append,List.take_of_length_le (by simp[xt,pI.enc])];have c:(xt a).length=5:=rfl;rw[c,show 5+i*5 - 5=i*5 by omega,b]
theorem Kt (l:List Th) (i:Nat):(eW l).drop (i*5)=eW (l.drop i):=by
 induction l generalizing i with
 |nil=>simp[eW]
 |cons a t c=>
  cases i with
  |zero=>simp[eW]
  |succ i=>
   have:(i+1)*5=5+i*5:=by omega
   simp only[eW,List.flatMap_cons,List.drop_succ_cons] at c ⊢;have b:(xt a).length=5:=rfl;rw[this,List.drop_append,List.drop_of_length_le (by rw[b];omega),b,show 5+i*5 - 5=i*5 by omega,c,List.nil_append]
theorem S4 {l:List Th} {i:Nat} {t:Th} (h:l[i]?=some t):((eW l).drop (i*5)).take 5=xt t:=by
 rw[Kt];have a:=(List.getElem?_eq_some_iff.1 h);rw[List.drop_eq_getElem_cons a.1,a.2];simp only[eW,List.flatMap_cons];exact List.take_left' rfl
def ix (no:Int):List Th->Option Nat
 |[]=>none
 |t::l=>if t.1=no then some 0 else(ix no l).map (·+1)
def mu (no:Int) (l:List Th):Int:=match ix no l with|some i=>i|none=> -1
def get (no:Int) (l:List Th):Option pI:=(l.find? fun t=>decide (t.1=no)).map (·.2)
def rem (no:Int):List Th->List Th
 |[]=>[]
 |t::l=>if t.1=no then l else t::rem no l
theorem xG {no:Int} {l:List Th} {i:Nat} (h:ix no l=some i):∃x,l[i]?=some (no,x)/\get no l=some x/\rem no l=l.take i++l.drop (i+1)/\i<l.length:=by
 induction l generalizing i with
 |nil=>cases h
 |cons t l e=>
  simp only[ix] at h;by_cases a:t.1=no;rw[aJ7 a] at h;cases h;exact⟨t.2,by simp[<-a],by simp[get,a],by simp[rem,a],by simp⟩;rw[aJ6 a] at h;cases hx:ix no l with
  |none=>rw[hx] at h;cases h
  |some j=>
   rw[hx] at h;cases h;obtain⟨x,c,b,d,f⟩:=e hx;refine⟨x,by simpa using c,?_,?_,by simp;omega⟩;simp only[get,List.find?_cons,decide_eq_false a] at b ⊢;exact b;simp[rem,a,d]
theorem Bf {no:Int} {l:List Th} (h:ix no l=none):get no l=none/\rem no l=l:=by
 induction l with
 |nil=>exact⟨rfl,rfl⟩
 |cons t l d=>
  simp only[ix] at h;by_cases a:t.1=no;rw[aJ7 a] at h;cases h;rw[aJ6 a] at h;obtain⟨b,c⟩:=d (by simpa using h);refine⟨?_,by simp[rem,a,c]⟩;simp only[get,List.find?_cons,decide_eq_false a] at b ⊢;exact b
theorem I3 {no:Int} {l:List Th}:(rem no l).length=if(get no l).isSome then l.length - 1 else l.length:=by
 cases h:ix no l with
 |none=>obtain⟨b,a⟩:=Bf h;rw[b,a];rfl
 |some i=>
  obtain⟨x,b,a,c,d⟩:=xG h;rw[a,c];simp;omega
structure gV where
 S:Nat->List Th
 al:Int
 aw:Bool
 Dm:Bool
 gl:Int
 gc:pI
 sE:Bool
def gV.new:gV:=⟨fun _=>[],0,false,false,0,pI.zero,false⟩
def gV.tail (c:gV):List Value:=[I c.al,.bool c.aw,.bool c.Dm,I c.gl]++c.gc.enc++[.bool c.sE]
variable (n:Nat) (ways:Nat) (lines:Int) (core:Int)
def setOf (l:Int):Nat:=(l % (n:Int)).toNat
def gV.aC5 (c:gV) (l:Int):Option pI:=if l<0 then none else get l (c.S (setOf n l))
def gV.may (c:gV) (l a:Int) (w:Bool):Bool:=match c.aC5 n l with
 |some x=>decide (x.w=a)&&lH x.st w
 |none=>false
def gV.set (c:gV) (l:Int) (s:List Th):gV:={c with S:=aS c.S (setOf n l) s}
def gV.drop (c:gV) (l:Int):gV:=c.set n l (rem l (c.S (setOf n l)))
def gV.put (c:gV) (l:Int) (x:pI):gV:=c.set n l (if(rem l (c.S (setOf n l))).length>=ways then rem l (c.S (setOf n l)) else rem l (c.S (setOf n l))++[(l,x)])
end
section
variable {n ways:Nat} {S:Nat->List Th} {s:gV} {C:bP} {core:Int}
def gG (x to:Int):Int:=if to=1 then Ig x else 0
def bB (n:Nat) (S:Nat->List Th) (no:Int):pI×Int:=if no<0 then(pI.zero,10) else match get no (S (setOf n no)) with|some x=>(x,0)|none=>(pI.zero,12)
def yB (n ways:Nat) (S:Nat->List Th) (no:Int):Option Th:=match get no (S (setOf n no)) with
 |some _=>none
 |none=>if(S (setOf n no)).length<ways then none else(S (setOf n no))[0]?
def gE (n:Nat) (S:Nat->List Th) (no:Int):Nat->List Th:=if no<0 then S else aS S (setOf n no) (rem no (S (setOf n no)))
def jY (n ways:Nat) (S:Nat->List Th) (no:Int) (x:pI):(Nat->List Th)×Int:=
 if(rem no (S (setOf n no))).length>=ways then(aS S (setOf n no) (rem no (S (setOf n no))),11) else(aS S (setOf n no) (rem no (S (setOf n no))++[(no,x)]),0)
theorem aI7 {no:Int} {l:List Th} (h:l.length<=4):(rem no l).length<=4:=by rw[I3];split<;>omega
theorem u0 {n:Nat} {S:Nat->List Th} {no:Int} (hb:∀i,(S i).length<=4):∀i,(gE n S no i).length<=4:=by
 intro i;unfold gE;split;exact hb i;unfold aS;split;exact aI7 (hb _);exact hb i
def vR (n ways:Nat) (S:Nat->List Th) (no:Int):Nat->List Th:=if(bB n S no).2=0 then(jY n ways (gE n S no) no (bB n S no).1).1 else gE n S no
def oh (n ways:Nat) (S:Nat->List Th) (no:Int):Int:=if(bB n S no).2=0 then(jY n ways (gE n S no) no (bB n S no).1).2 else(bB n S no).2
def rS (C:bP) (l:Int):Bool:=decide (0<=l/\l<C.lines)
def mH (n:Nat) (S:Nat->List Th) (l a:Int) (w:Bool):Bool:=decide ((bB n S l).2=0)&&decide ((bB n S l).1.w=a)&&lH (bB n S l).1.st w
def lZ (C:bP) (S:Nat->List Th) (l at' a:Int) (w:Bool):Int:=
 if rS C l=false then 10 else if at'<0 then 10 else if at'>=2 then 10 else if mH C.aI.toNat S l a w=false then 16 else 0
def mL (C:bP) (s:gV) (l at' a:Int):gV:=if lZ C s.S l at' a false=0 then {s with S:=vR C.aI.toNat C.ways.toNat s.S l} else s
def nf (d:Ln) (at' v:Int):Ln:=if at'=0 then(v,d.2) else(d.1,v)
def nZ (n:Nat) (S:Nat->List Th) (l at' v:Int):pI:=⟨4,(bB n S l).1.w,nf (bB n S l).1.d at' v⟩
def iU (C:bP) (s:gV) (l at' a v:Int):gV:=if lZ C s.S l at' a true=0 then {s with S:=(jY C.aI.toNat C.ways.toNat s.S l (nZ C.aI.toNat s.S l at' v)).1} else s
def Bd (s:gV):Prop:=∀i,(s.S i).length<=4
theorem lF (hC:C.Ok):0<C.aI.toNat/\C.aI.toNat<=8/\0<C.ways.toNat/\C.ways.toNat<=4:=by unfold bP.Ok at hC;omega
theorem qJ {S:Nat->List Th} {l at' c:Int} {w:Bool} (h:lZ C S l at' c w=0):(0<=l/\l<C.lines)/\(at'=0\/at'=1)/\(bB C.aI.toNat S l).2=0/\lH (bB C.aI.toNat S l).1.st w=true:=by
 unfold lZ at h;split at h;omega;split at h;omega;split at h;omega;split at h;omega;rename_i a d e b;have a:rS C l=true:=by simpa using a
 have b:mH C.aI.toNat S l c w=true:=by simpa using b
 unfold rS at a;unfold mH at b;grind
def mO (core:Int) (s:gV) (l w:Int) (wr:Bool) (ns:List aJ):gV×List aJ×Int:=
 ({s with al:=l,aw:=wr,Dm:=true},ns++[⟨if wr then 2 else 1,core,l,w,0,0,0,false,0⟩],0)
def A5 (C:bP) (core:Int) (s:gV) (l w:Int) (wr:Bool):gV×List aJ×Int:=
 match yB C.aI.toNat C.ways.toNat s.S l with
 |none=>mO core s l w wr []
 |some v=>
  if s.sE then(s,[],11) else
  if(bB C.aI.toNat s.S v.1).2≠0 then({s with S:=gE C.aI.toNat s.S v.1},[],(bB C.aI.toNat s.S v.1).2) else
  mO core {s with S:=gE C.aI.toNat s.S v.1,gl:=v.1,gc:=(bB C.aI.toNat s.S v.1).1,sE:=true} l w wr
   [⟨3,core,v.1,(bB C.aI.toNat s.S v.1).1.w,0,(bB C.aI.toNat s.S v.1).1.d.1,(bB C.aI.toNat s.S v.1).1.d.2,jF (bB C.aI.toNat s.S v.1).1.st,0⟩]
def want (C:bP) (core:Int) (s:gV) (l w:Int) (wr:Bool):gV×List aJ×Int:=
 if rS C l=false then(s,[],10) else if s.Dm then(s,[],17) else if s.sE=true/\s.gl=l then(s,[],16) else
 if(bB C.aI.toNat s.S l).2=0/\lH (bB C.aI.toNat s.S l).1.st wr=true then(s,[],13) else A5 C core s l w wr
abbrev Tk:=gV×List aJ×Int
def iT (C:bP) (s:gV) (n:aJ):pI:=⟨n.state,n.world,if(bB C.aI.toNat s.S n.line).2=0 then(bB C.aI.toNat s.S n.line).1.d else(n.d0,n.d1)⟩
def vB (C:bP) (core:Int) (s:gV) (n:aJ):Tk:=
 if s.Dm=false then(s,[],16) else if s.al≠n.line then(s,[],16) else
 if(jY C.aI.toNat C.ways.toNat s.S n.line (iT C s n)).2≠0 then({s with S:=(jY C.aI.toNat C.ways.toNat s.S n.line (iT C s n)).1},[],(jY C.aI.toNat C.ways.toNat s.S n.line (iT C s n)).2) else
 ({s with S:=(jY C.aI.toNat C.ways.toNat s.S n.line (iT C s n)).1,al:=0,aw:=false,Dm:=false},[⟨4,core,n.line,0,0,0,0,false,0⟩],0)
def Ex (s:gV) (n:aJ):Tk:=if s.Dm=false then(s,[],16) else if s.al≠n.line then(s,[],16) else({s with al:=0,aw:=false,Dm:=false},[],0)
def sA (s:gV) (n:aJ):Tk:=if s.sE=false then(s,[],12) else if s.gl≠n.line then(s,[],12) else({s with gl:=0,gc:=pI.zero,sE:=false},[],0)
def gR (core:Int) (n:aJ) (x:pI):aJ:=if C7 x.st then⟨5,core,n.line,0,gG x.st n.state,x.d.1,x.d.2,jF x.st,0⟩ else⟨5,core,n.line,0,gG x.st n.state,0,0,false,0⟩
def nJ (C:bP) (core:Int) (s:gV) (n:aJ):Tk:=
 if n.state≠1/\n.state≠0 then(s,[],10) else
 if(bB C.aI.toNat s.S n.line).2=0 then
  ({s with S:=if gG (bB C.aI.toNat s.S n.line).1.st n.state=0 then gE C.aI.toNat s.S n.line else(jY C.aI.toNat C.ways.toNat s.S n.line {(bB C.aI.toNat s.S n.line).1 with st:=gG (bB C.aI.toNat s.S n.line).1.st n.state}).1},[gR core n (bB C.aI.toNat s.S n.line).1],0)
 else if s.sE=false then(s,[⟨5,core,n.line,0,0,0,0,false,0⟩],0) else if s.gl≠n.line then(s,[⟨5,core,n.line,0,0,0,0,false,0⟩],0) else
  ({s with gc:={s.gc with st:=gG s.gc.st n.state}},[gR core n s.gc],0)
def fT (C:bP) (core:Int) (s:gV) (n:aJ):Tk:=
 if n.kind=8 then(if rS C n.line=false then(s,[],10) else vB C core s n)
 else if n.kind=9 then(if rS C n.line=false then(s,[],10) else Ex s n)
 else if n.kind=10 then(if rS C n.line=false then(s,[],10) else sA s n)
 else if n.kind=11 then(if rS C n.line=false then(s,[],10) else nJ C core s n)
 else(s,[],15)
def Nw (core:Int) (n:aJ):aJ:=⟨5,core,n.line,0,0,0,0,false,0⟩
structure Sts (n:Nat) (s:gV):Prop where
 aC5:∀l,(bB n s.S l).2=0->0<=(bB n s.S l).1.st/\(bB n s.S l).1.st<5
 back:s.sE=true->0<=s.gc.st/\s.gc.st<5
theorem uX {no:Int} {l:List Th}:(rem no l).Sublist l:=by
 induction l with
 |nil=>exact List.Sublist.refl _
 |cons t l a=>
  simp only[rem];grind
theorem Iy {no:Int} {l:List Th} (h:(l.map (·.1)).Nodup):no∉(rem no l).map (·.1):=by
 induction l with
 |nil=>simp[rem]
 |cons t l a=>
  simp only[List.map_cons,List.nodup_cons] at h;simp only[rem];grind
theorem get_mem {no:Int} {l:List Th} {x:pI} (h:get no l=some x):(no,x)∈l:=by
 unfold Go.Ct.get at h;cases hf:l.find? (fun t=>decide (t.1=no)) with
 |none=>rw[hf] at h;cases h
 |some t=>
  grind
theorem Za {no:Int} {l:List Th} (h:no∉l.map (·.1)):get no l=none:=by
 unfold Go.Ct.get;grind
theorem xf {no:Int} {l:List Th} {x:pI} (h:no∉l.map (·.1)):get no (l++[(no,x)])=some x:=by
 have a:=Za h;unfold Go.Ct.get at a ⊢;grind
structure nR (ways:Nat) (l:List Th):Prop where
 len:l.length<=ways
 st:∀t∈l,1<=t.2.st/\t.2.st<=4
 nd:(l.map (·.1)).Nodup
theorem nR.rem {ways:Nat} {l:List Th} {no:Int} (h:nR ways l):nR ways (Go.Ct.rem no l):=
 ⟨Nat.le_trans uX.length_le h.len,fun t a=>h.st t (uX.mem a),(uX.map _).nodup h.nd⟩
theorem nR.app {ways:Nat} {l:List Th} {no:Int} {x:pI} (h:nR ways l) (c:l.length<ways) (e:1<=x.st/\x.st<=4) (d:no∉l.map (·.1)):nR ways (l++[(no,x)]):=
 ⟨by simp;omega,fun t b=>by
  rcases List.mem_append.1 b with a|a;exact h.st t a;grind,by
  rw[List.map_append,List.nodup_append];refine⟨h.nd,by simp,?_⟩;grind⟩
def Pl (n:Nat) (S:Nat->List Th):Prop:=∀i t,t∈S i->0<=t.1/\setOf n t.1=i
theorem Ba {n:Nat} {S:Nat->List Th} {no:Int} (h:Pl n S):Pl n (gE n S no):=by
 intro i t a;unfold gE at a;split at a;exact h i t a;unfold aS at a;split at a;rename_i e;subst e;exact h _ t (uX.mem a);exact h i t a
theorem Jg {n ways:Nat} {S:Nat->List Th} {no:Int} {x:pI} (c:0<=no) (h:Pl n S):Pl n (jY n ways S no x).1:=by
 intro i t a;unfold jY at a;split at a;unfold aS at a;dsimp only at a;split at a;rename_i e;subst e;exact h _ t (uX.mem a);exact h i t a;unfold aS at a;dsimp only at a;split at a;rename_i e;subst e;rcases List.mem_append.1 a with b|b;exact h _ t (uX.mem b);grind;exact h i t a
structure Good (n ways:Nat) (s:gV):Prop where
 aI:∀i,nR ways (s.S i)
 back:s.sE=true->0<=s.gc.st/\s.gc.st<=4
 pl:Pl n s.S
theorem pV {no:Int} (h:∀i,nR ways (S i)):∀i,nR ways (gE n S no i):=by
 intro i;unfold gE;split;exact h i;unfold aS;split;exact(h _).rem;exact h i
theorem zU {no:Int} {x:pI} (a:1<=x.st/\x.st<=4) (h:∀i,nR ways (S i)):∀i,nR ways ((jY n ways S no x).1 i):=by
 intro i;unfold jY;split;unfold aS;dsimp only;split;exact(h _).rem;exact h i;rename_i b;unfold aS;dsimp only;split;exact((h (setOf n no)).rem).app (by omega) a (Iy (h _).nd);exact h i
theorem sK {l:Int} (h:∀i,nR ways (S i)) (a:(bB n S l).2=0):1<=(bB n S l).1.st/\(bB n S l).1.st<=4:=by
 unfold bB at a ⊢;split at a;cases a;rename_i b;rw[aJ6 b];cases hg:get l (S (setOf n l)) with
 |none=>grind
 |some x=>exact(h _).st _ (get_mem hg)
theorem q5 {no:Int} (h:∀i,nR ways (S i)):∀i,nR ways (vR n ways S no i):=by
 intro i;unfold vR;split;rename_i a;exact zU (sK h a) (pV h) i;exact pV h i
theorem xr {no:Int} (a:(bB n S no).2=0):0<=no:=by
 unfold bB at a;grind
theorem aC8 {no:Int} (h:Pl n S):Pl n (vR n ways S no):=by
 unfold vR;split;rename_i a;exact Jg (xr a) (Ba h);exact Ba h
theorem Good.bd (h:Good n ways s) (a:ways<=4):Bd s:=fun i=>Nat.le_trans (h.aI i).len a
theorem Good.sts (h:Good n ways s):Sts n s:=⟨fun l b=>by have:=sK (n:=n) h.aI b;omega,fun a=>by have:=h.back a;omega⟩
theorem Vt:Good n ways gV.new:=⟨fun _=>⟨Nat.zero_le _,(fun _ h=>by cases h),List.nodup_nil⟩,(fun h=>by cases h),fun _ _ h=>by cases h⟩
abbrev iG (C:bP) (s:gV):Prop:=Good C.aI.toNat C.ways.toNat s
theorem ky {l w:Int} {wr:Bool} (h:iG C s):iG C (want C core s l w wr).1:=by
 unfold want;split;exact h;split;exact h;split;exact h;split;exact h;unfold A5;split;exact⟨h.aI,h.back,h.pl⟩;split;exact h;split;exact⟨pV h.aI,h.back,Ba h.pl⟩;rename_i v _ _ a;have a:(bB C.aI.toNat s.S v.1).2=0:=by simpa using a
 exact⟨pV h.aI,fun _=>(by have:=sK (n:=C.aI.toNat) h.aI a;exact⟨by show 0<=(bB C.aI.toNat s.S v.1).1.st;omega,this.2⟩),Ba h.pl⟩
theorem Aw {x to:Int} (a:0<=x/\x<=4):0<=gG x to/\gG x to<=4:=by
 unfold gG Ig;grind
theorem Py {nt:aJ} (d:nt.kind=8->1<=nt.state/\nt.state<=4) (h:iG C s):iG C (fT C core s nt).1:=by
 unfold fT;split;rename_i b;split;exact h;rename_i g;have a:0<=nt.line:=(of_decide_eq_true (by simpa using g:rS C nt.line=true)).1;unfold vB;split;exact h;split;exact h;split;exact⟨zU (d b) h.aI,h.back,Jg a h.pl⟩;exact⟨zU (d b) h.aI,h.back,Jg a h.pl⟩
 .split;split;exact h;unfold Ex;split;exact h;split;exact h;exact⟨h.aI,h.back,h.pl⟩
  .split;split;exact h;unfold sA;split;exact h;split;exact h;exact⟨h.aI,(fun e=>by cases e),h.pl⟩
   .split
    .split;exact h
     .unfold nJ;split;exact h
      .split
       .rename_i c;have a:=xr c;have j:=sK (n:=C.aI.toNat) h.aI c;refine⟨?_,h.back,?_⟩;rotate_left;dsimp only;split;exact Ba h.pl;exact Jg a h.pl;dsimp only;split;exact pV h.aI;rename_i i;exact zU (by have:=Aw (x:=(bB C.aI.toNat s.S nt.line).1.st) (to:=nt.state) (by omega);dsimp only;omega) h.aI
       split;exact h;split;exact h;rename_i f _;exact⟨h.aI,(fun _=>Aw (h.back (by simpa using f))),h.pl⟩
    exact h
theorem G9 {l a b:Int} (h:iG C s):iG C (mL C s l a b):=by
 unfold mL;split;exact⟨q5 h.aI,h.back,aC8 h.pl⟩;exact h
theorem Mt {l a c v:Int} (h:iG C s):iG C (iU C s l a c v):=by
 unfold iU;split;rename_i b;exact⟨zU (by simp[nZ]) h.aI,h.back,Jg (qJ b).1.1 h.pl⟩;exact h
theorem ve {l w:Int} {wr:Bool}:(want C core s l w wr).2.1.length<=2:=by
 unfold want;split;simp;split;simp;split;simp;split;simp;unfold A5;split;simp[mO];split;simp;split;simp;simp[mO]
theorem uw {nt:aJ}:(fT C core s nt).2.1.length<=1:=by
 unfold fT vB Ex sA nJ;grind
end
end Go.Ct
namespace Go.Nt
open Go Go.Ab Go.Hm
section
def Ws:List (List UInt8×Int×List Int):=[
 ([],0,[0,0,0,0,0,0,0]),
  ([103,101,116,115],0,[1,2,3,0,0,0,0]),
  ([103,101,116,109],0,[1,2,3,0,0,0,0]),
  ([112,117,116],0,[1,2,4,8,9,10,0]),
  ([100,111,110,101],1,[1,2,0,0,0,0,0]),
  ([114,101,112,108,121],1,[1,2,5,8,9,10,11]),
  ([119,97,108,107],0,[1,12,0,0,0,0,0]),
  ([100,114,111,112,112,101,100],1,[1,13,0,0,0,0,0]),
  ([103,114,97,110,116],2,[1,2,4,6,8,9,0]),
  ([110,97,99,107],2,[1,2,11,0,0,0,0]),
  ([112,117,116,97,99,107],2,[1,2,0,0,0,0,0]),
  ([112,114,111,98,101],3,[1,2,7,0,0,0,0]),
  ([119,97,108,107,101,100],2,[1,8,9,12,0,0,0]),
  ([100,114,111,112],3,[1,13,0,0,0,0,0])]
def aAi (r:List UInt8×Int×List Int):List Value:= .string ⟨r.1.toArray⟩::I r.2.1::r.2.2.map I
def xW:List Value:=Ws.flatMap aAi
def fh (k:Nat):List Int:=(Ws.getD k ([],0,[])).2.2
def On (k:Nat):Int:=(Ws.getD k ([],0,[])).2.1
def ws (arr:List Int):Nat->Nat->List Int
 |0,_=>[]
 |f+1,i=>if arr.getD i 0=0 then [] else arr.getD i 0::ws arr f (i+1)
def C4 (k:Nat):List Int:=ws (fh k) 7 0
theorem k14 {k:Nat} (h:k<14):k=0\/k=1\/k=2\/k=3\/k=4\/k=5\/k=6\/k=7\/k=8\/k=9\/k=10\/k=11\/k=12\/k=13:=by omega
theorem W1 {k:Nat} (h:k<14):xW[k*9+1]?=some (I (On k)):=by
 rcases k14 h with rfl|rfl|rfl|rfl|rfl|rfl|rfl|rfl|rfl|rfl|rfl|rfl|rfl|rfl<;>rfl
theorem jc {k:Nat} (h:k<14):(xW.drop (k*9+2)).take 7=(fh k).map I:=by
 rcases k14 h with rfl|rfl|rfl|rfl|rfl|rfl|rfl|rfl|rfl|rfl|rfl|rfl|rfl|rfl<;>rfl
theorem aa {k:Nat} (h:k<14):(fh k).length=7:=by
 rcases k14 h with rfl|rfl|rfl|rfl|rfl|rfl|rfl|rfl|rfl|rfl|rfl|rfl|rfl|rfl<;>rfl
theorem jn:xW.length=126:=by rfl
theorem zg {k:Nat} (h:k<14):∀f∈C4 k,1<=f/\f<=13:=by
 rcases k14 h with rfl|rfl|rfl|rfl|rfl|rfl|rfl|rfl|rfl|rfl|rfl|rfl|rfl|rfl<;>decide
theorem f13 {f:Int} (h:1<=f/\f<=13):f=1\/f=2\/f=3\/f=4\/f=5\/f=6\/f=7\/f=8\/f=9\/f=10\/f=11\/f=12\/f=13:=by omega
def Nu (k:Int):Prop:=1<=k/\k<14
instance (k:Int):Decidable (Nu k):=by unfold Nu;infer_instance
def jy (n:aJ) (f:Int):Int:=
 if f=1 then n.core else if f=2 then n.line else if f=3\/f=4 then n.world else if f=5\/f=6\/f=7 then n.state else if f=8 then n.d0 else if f=9 then n.d1
 else if f=10 then(if n.jU=true then 1 else 0) else n.no
def aDk (n:aJ) (f v:Int):aJ:=
 if f=1 then {n with core:=v} else if f=2 then {n with line:=v} else if f=3\/f=4 then {n with world:=v} else if f=5\/f=6\/f=7 then {n with state:=v} else if f=8 then {n with d0:=v} else if f=9 then {n with d1:=v}
 else if f=10 then {n with jU:=decide (v≠0)} else {n with no:=v}
def ng (C:bP) (f v:Int):Prop:=
 if f=1 then 0<=v/\v<C.aE else if f=2 then 0<=v/\v<C.lines else if f=3 then 0<=v/\v<=3 else if f=4 then 0<=v/\v<=4 else if f=5 then 0<=v/\v<=4
 else if f=6 then v=1\/v=2\/v=4 else if f=7 then v=0\/v=1 else if f=10\/f=11 then v=0\/v=1 else if f=12 then 0<=v/\v<20 else if f=13 then 0<=v/\v<C.aN else True
instance (C:bP) (f v:Int):Decidable (ng C f v):=by unfold ng;infer_instance
def oJ (C:bP) (n:aJ):List Int->aJ->Bool×aJ
 |[],a=>(true,a)
 |f::b,a=>if ng C f (jy n f) then oJ C n b (aDk a f (jy n f)) else(false,a)
def Et (k:Int):aJ:={aJ.zero with kind:=k}
def pG (C:bP) (n:aJ):Int:=
 if Nu n.kind then(if C.Ok then(if(oJ C n (C4 n.kind.toNat) (Et n.kind)).1=true/\(oJ C n (C4 n.kind.toNat) (Et n.kind)).2=n then 0 else 10) else 10) else 15
end
end Go.Nt
namespace Go.Mc
open Go Go.Ab Go.Hm Go.At Go.Is Go.Ct Go.Nt
section
structure hZ where
 owner:Int
 locked:Bool
 deriving DecidableEq
def hZ.enc (x:hZ):List Value:=[I x.owner,.bool x.locked]
def iI:hZ:=⟨0,false⟩
def iR (n g:Int):Int:=(n+3)/4+g
def Qt (x:hZ):Int:=if x.locked then x.owner+8 else x.owner
def F5 (es:List hZ) (j:Nat):Bool:=((es.drop (4*j)).take 4).all fun x=>decide (x=⟨(es.getD (4*j) iI).owner,false⟩)
def Nj (es:List hZ) (j:Nat):Int:=if F5 es j then 4*(es.getD (4*j) iI).owner else 4*iR es.length (4*j:Nat)+1
def iC (es:List hZ):List Int:=(List.range ((es.length+3)/4)).map (Nj es)++es.map Qt
def iO (es:List hZ) (at':Int):Int×Int:=if 0<=at'/\at'<(iC es).length then((iC es).getD at'.toNat 0,0) else(0,10)
def Al (o:Int):Bool:=decide (0<=o/\o<=4)
def iP (n g at' word:Int):Int×hZ×Bool×Int:=
 if ¬((1<=n/\n<=16)/\(0<=g/\g<n)) then(0,iI,false,10)
 else if at'=g/4 then
  if word=4*iR n (g/4*4)+1 then(iR n g,iI,false,0)
  else if word % 4=0/\Al (word/4)=true then(0,⟨word/4,false⟩,true,0)
  else(0,iI,false,14)
 else if at'=iR n g then
  if Al word=true then(0,⟨word,false⟩,true,0)
  else if 8<=word/\Al (word - 8)=true then(0,⟨word - 8,true⟩,true,0)
  else(0,iI,false,14)
 else(0,iI,false,10)
structure kE where
 kY:Bool
 bK:Int
 at':Int
 mX:Bool
 known:List (Int×Int)
def Ha:kE:=⟨false,0,0,false,[]⟩
def dK (x:Int×Int):List Value:=[I x.1,I x.2]
def jT (l:List (Int×Int)) (g:Int):Option Int:=(l.find? fun x=>decide (x.1=g)).map (·.2)
def kE.ask (c:kE) (C:bP) (world g:Int):Int×Int:=
 if(0<=g/\g<C.aN)/\(0<=world/\world<=3) then
  match jT c.known g with
  |none=>(3,0)
  |some o=>if yV world o then(1,0) else(2,0)
 else(0,10)
def kE.start (c:kE) (g:Int):kE:={c with kY:=true,bK:=g,at':=g/4,mX:=false}
def kE.begin (c:kE) (C:bP) (g:Int):kE×Int×Int:=
 if ¬(0<=g/\g<C.aN) then(c,0,10)
 else if(jT c.known g).isSome then(c,0,13)
 else if c.kY then(c,0,16)
 else(c.start g,g/4,0)
def kE.A8 (c:kE) (C:bP) (f:Int×Int):kE:={c with known:=(if(c.known.length:Int)>=C.entries then c.known.drop 1 else c.known)++[f]}
def kE.goto (c:kE) (a:Int):kE:={c with at':=a}
def kE.fresh (c:kE):kE:={c with mX:=false,at':=c.bK/4}
def kE.done (c:kE):kE:={c with kY:=false,bK:=0,at':=0,mX:=false}
def kE.walked (c:kE) (C:bP) (at' word:Int):kE×Int×Bool×Int:=
 if c.kY=false then(c,0,false,16)
 else if at'≠c.at' then(c,0,false,1)
 else if c.mX then(c.fresh,c.bK/4,false,0)
 else
  let r:=iP C.aN c.bK at' word
  if r.2.2.2≠0 then(c,0,false,r.2.2.2)
  else if r.2.2.1=true/\r.2.1.locked=true then(c.goto (c.bK/4),c.bK/4,false,0)
  else if r.2.2.1=false then(c.goto r.1,r.1,false,0)
  else((c.A8 C (c.bK,r.2.1.owner)).done,0,true,0)
def kE.drop (c:kE) (C:bP) (g:Int):kE×Int:=
 if g< -1\/g>=C.aN then(c,10)
 else({c with known:=c.known.filter (fun x=> !decide (g= -1\/x.1=g)),mX:=c.mX||(c.kY&&decide (g= -1\/c.bK=g))},0)
structure jE where
 core:Int
 world:Int
 call:Int
 bK:Int
 to:Int
 then':Int
 jZ:Bool
 phase:Int
 waits:Nat->Bool
def jE.enc (r:jE):List Value:=[I r.core,I r.world,I r.call,I r.bK,I r.to,I r.then',.bool r.jZ,I r.phase,.bool (r.waits 0),.bool (r.waits 1),.bool (r.waits 2),.bool (r.waits 3)]
structure Mon where
 dQ:List hZ
 runs:Nat->Option jE
def Mon.pZ (m:Mon) (g:Nat) (x:hZ):Mon:={m with dQ:=m.dQ.set g x}
def Mon.cR (m:Mon) (g:Nat) (x:Option jE):Mon:={m with runs:=aS m.runs g x}
def Mon.has (m:Mon) (g:Int):Prop:=0<=g/\g<m.dQ.length
instance (m:Mon) (g:Int):Decidable (m.has g):=by unfold Mon.has;infer_instance
def Mon.kT (m:Mon) (g:Int):hZ:=m.dQ.getD g.toNat iI
def Mon.run (m:Mon) (g:Int):Option jE:=if 0<=g then m.runs g.toNat else none
def Mon.phase (m:Mon) (g:Int):Int:=match m.run g with
 |some r=>r.phase
 |none=>0
def Mon.running (m:Mon):List Nat:=(List.range 16).filter fun g=>(m.runs g).isSome
def Mon.lX (m:Mon) (core:Int) (g:Nat):Bool:=match m.runs g with
 |some r=>decide (r.core=core)
 |none=>false
def Mon.calls (m:Mon) (core:Int):Bool:=m.running.any (m.lX core)
structure Ask where
 core:Int
 world:Int
 call:Int
 bK:Int
 to:Int
def Ask.enc (a:Ask):List Value:=[I a.core,I a.world,I a.call,I a.bK,I a.to]
def Ask.run (a:Ask) (aE:Int) (j:Int×Bool×Int):jE:=⟨a.core,a.world,a.call,a.bK,a.to,j.1,j.2.1,1,fun i=>decide ((i:Int)<aE)⟩
def Mon.call (m:Mon) (aE:Int) (a:Ask):Mon×Bool×Int:=
 if ¬(0<=a.core/\a.core<aE) then(m,false,1)
 else if ¬m.has a.bK then(m,false,10)
 else if m.phase a.bK≠0 then(m,false,17)
 else if m.calls a.core then(m,false,13)
 else
  let j:=fL a.call a.world (m.kT a.bK).owner a.to
  if j.2.2≠0 then(m,false,j.2.2)
  else((m.pZ a.bK.toNat ⟨(m.kT a.bK).owner,true⟩).cR a.bK.toNat (some (a.run aE j)),true,0)
def jE.none (r:jE):Bool:= !(r.waits 0||r.waits 1||r.waits 2||r.waits 3)
def jE.heard (r:jE) (core:Int):jE:={r with waits:=gO r.waits core false}
def jE.gZ (r:jE):jE:={r with phase:=if r.none then 2 else r.phase}
def Mon.dropped (m:Mon) (aE g core:Int):Mon×Bool×Int:=
 if ¬m.has g then(m,false,10)
 else match m.run g with
  |none=>(m,false,16)
  |some r=>
   if r.phase≠1 then(m,false,16)
   else if ¬(0<=core/\core<aE)\/r.waits core.toNat=false then(m,false,12)
   else(m.cR g.toNat (some (r.heard core).gZ),(r.heard core).none,0)
def Mon.over (m:Mon) (g:Int):Mon×Option jE×Int:=
 if ¬m.has g then(m,none,10)
 else match m.run g with
  |none=>(m,none,16)
  |some r=>
   if r.phase≠2 then(m,none,16)
   else((m.pZ r.bK.toNat ⟨r.then',false⟩).cR g.toNat none,some r,0)
def aK.next? (s:aK):Option Ins:=if s.over then none else some (kI s.prog s.at')
def aK.ev (s:aK) (i:Nat) (x:Ins) (word value code:Int):Ev:=⟨i,s.at',x.op,s.world,word,value,code⟩
def aK.step (s:aK) (a:Int):aK:=s.fM a
def aK.gU (s:aK) (i:Nat):Option (aK×Ev):=
 match aK.next? s with
 |none=>none
 |some x=>
  if x.op=1 then some ((s.cR x.a x.b).fM (s.at'+1),aK.ev s i x 0 x.b 0)
  else if x.op=2 then some ((s.cR x.a (wr (s.cB x.b.toNat+s.cB x.c.toNat))).fM (s.at'+1),aK.ev s i x 0 (wr (s.cB x.b.toNat+s.cB x.c.toNat)) 0)
  else if x.op=6 then some (s.fM (s.at'+1),aK.ev s i x 0 0 0)
  else if x.op=7 then(if s.world=0 then some ((s.Qv x.a).fM (s.at'+1),aK.ev s i x 0 x.a 0) else some (s.fM (s.at'+1),aK.ev s i x 0 x.a 18))
  else if x.op=9 then some (s.fM x.a,aK.ev s i x 0 x.a 0)
  else if x.op=10 then some (s.fM (if s.cB x.a.toNat=0 then x.b else s.at'+1),aK.ev s i x 0 (s.cB x.a.toNat) 0)
  else none
def xN (op:Int):Bool:=decide (op=3\/op=4\/op=5)
structure Acc where
 word:Int
 write:Bool
 read:Bool
 value:Int
def aK.iF (s:aK):Option Acc:=
 match aK.next? s with
 |none=>none
 |some x=>if xN x.op then some ⟨s.cB x.b.toNat,decide (x.op≠3),decide (x.op≠4),if x.op=3 then 0 else s.cB x.a.toNat⟩ else none
def aK.sL (s:aK) (i:Nat):Option Ask:=
 match aK.next? s with
 |none=>none
 |some x=>if x.op=8 then some ⟨i,s.world,x.a,s.cB x.b.toNat,s.cB x.c.toNat⟩ else none
def aK.bI (s:aK) (i:Nat) (value code:Int):aK×Ev×Int:=
 match aK.next? s with
 |none=>(s,Ga,16)
 |some x=>
  if x.op=8 then((s.cR x.b code).fM (s.at'+1),aK.ev s i x (s.cB x.b.toNat) (s.cB x.c.toNat) code,0)
  else if xN x.op then
   if code≠0/\code≠19 then(s,Ga,1)
   else if code=19 then(s.fM (s.at'+1),aK.ev s i x (s.cB x.b.toNat) 0 19,0)
   else if x.op=4 then(s.fM (s.at'+1),aK.ev s i x (s.cB x.b.toNat) (s.cB x.a.toNat) 0,0)
   else((s.cR x.a value).fM (s.at'+1),aK.ev s i x (s.cB x.b.toNat) value 0,0)
  else(s,Ga,16)
abbrev gL:=Nat->Nat->List aJ
def fX (n:aJ):Nat:=(On n.kind.toNat).toNat
def gL.set (F:gL) (c w:Nat) (l:List aJ):gL:=fun a b=>if a=c/\b=w then l else F a b
def gL.put (F:gL) (n:aJ):gL:=F.set n.core.toNat (fX n) (F n.core.toNat (fX n)++[n])
def gL.yX (d:Int):gL->List aJ->Option gL
 |F,[]=>some F
 |F,n::l=>if((F n.core.toNat (fX n)).length:Int)<d then gL.yX d (F.put n) l else none
def cQ (C:bP):List aJ->Int
 |[]=>0
 |n::l=>if pG C n≠0 then pG C n else cQ C l
def gL.send (C:bP) (F:gL) (l:List aJ):gL×Int:=
 if cQ C l≠0 then(F,cQ C l) else match gL.yX C.depth F l with
  |some a=>(a,0)
  |none=>(F,11)
def gL.take (C:bP) (F:gL) (core a b:Int):gL×aJ×Int:=
 if ¬((0<=core/\core<C.aE)/\(0<=a/\a<4)) then(F,aJ.zero,10)
 else
  let l:=F core.toNat a.toNat
  if l=[] then(F,aJ.zero,12)
  else
   let i:=(b % (l.length:Int)).toNat
   (F.set core.toNat a.toNat (l.eraseIdx i),l.getD i aJ.zero,0)
structure dB where
 aC:Nat->aK
 dG:Nat->gV
 cQ:Nat->kE
 home:kK
 cE:Mon
 kM:gL
 log:List Ev
abbrev dB.iZ (M:dB) (i:Nat) (s:aK):dB:={M with aC:=aS M.aC i s}
abbrev dB.uG (M:dB) (i:Nat) (s:gV):dB:={M with dG:=aS M.dG i s}
abbrev dB.Dy (M:dB) (i:Nat) (s:kE):dB:={M with cQ:=aS M.cQ i s}
abbrev dB.qH (M:dB) (h:kK):dB:={M with home:=h}
abbrev dB.iY (M:dB) (m:Mon):dB:={M with cE:=m}
abbrev dB.dN (M:dB) (l:gL):dB:={M with kM:=l}
abbrev dB.Rt (M:dB) (v:Ev):dB:={M with log:=M.log++[v]}
def dP (kind:Int) (core:Int) (no:Int):aJ:={aJ.zero with kind:=kind,core:=core,no:=no}
def sG (core word no:Int):aJ:={dP 12 core no with d0:=word}
variable (C:bP)
def dB.waits (M:dB) (i:Int):Bool:=M.cE.calls i
def dB.bI (M:dB) (i:Nat) (value code:Int):dB×Int:=
 let r:=aK.bI (M.aC i) i value code
 if r.2.2≠0 then(M,r.2.2) else((M.iZ i r.1).Rt r.2.1,0)
def tL (aE g:Int):List aJ:=(List.range aE.toNat).map fun i:Nat=>dP 13 i g
def dB.call (M:dB) (i:Nat) (a:Ask):dB×Int:=
 let r:=M.cE.call C.aE a
 if r.2.2≠0 then M.bI i 0 r.2.2
 else
  let s:=M.kM.send C (tL C.aE a.bK)
  if s.2≠0 then(M,s.2) else((M.dN s.1).iY r.1,0)
def dB.walk (M:dB) (i:Nat) (g:Int):dB×Int:=
 let r:=(M.cQ i).begin C g
 if r.2.2≠0 then(M,r.2.2)
 else
  let s:=M.kM.send C [dP 6 i r.2.1]
  if s.2≠0 then(M,s.2) else((M.dN s.1).Dy i r.1,0)
def dB.want (M:dB) (i:Nat) (line:Int) (write:Bool):dB×Int:=
 let r:=Ct.want C i (M.dG i) line (M.aC i).world write
 if r.2.2≠0 then(M,r.2.2)
 else
  let s:=M.kM.send C r.2.1
  if s.2≠0 then(M,s.2) else((M.dN s.1).uG i r.1,0)
def dB.known (M:dB) (i:Nat) (g:Int):Int:=(jT (M.cQ i).known g).getD 0
def aFq (d:Ln) (a:Int):Int:=if a=0 then d.1 else d.2
def Er (c:gV) (l a:Int):Int:=aFq (bB C.aI.toNat c.S l).1.d a
def dB.gI (M:dB) (i:Nat) (line at' owner:Int) (a:Acc):dB×Int:=
 let b:=if a.read then mL C (M.dG i) line at' owner else M.dG i
 let c2:=if a.write then iU C b line at' owner a.value else b
 (M.uG i c2).bI i (if a.read then Er C (M.dG i) line at' else 0) 0
def dB.access (M:dB) (i:Nat) (a:Acc):dB×Int:=
 if ¬(0<=a.word/\a.word<C.lines*2) then M.bI i 0 19
 else
  let line:=a.word/2
  let g:=line/2
  let r:=(M.cQ i).ask C (M.aC i).world g
  if r.2≠0 then(M,r.2)
  else if r.1=3 then M.walk C i g
  else if r.1=2 then M.bI i 0 19
  else if mH C.aI.toNat (M.dG i).S line (M.known i g) a.write=false then M.want C i line a.write
  else M.gI C i line (a.word % 2) (M.known i g) a
def dB.step (M:dB) (A:Int):dB×Int:=
 if ¬(0<=A/\A<C.aE) then(M,10)
 else
  let i:=A.toNat
  if(M.aC i).over then(M,20)
  else if M.waits A then(M,16)
  else match aK.gU (M.aC i) i with
   |some r=>((M.iZ i r.1).Rt r.2,0)
   |none=>match aK.sL (M.aC i) i with
    |some a=>M.call C i a
    |none=>match aK.iF (M.aC i) with
     |some a=>M.access C i a
     |none=>(M,16)
def xE (H:kK) (g:Int):kK:=(jA C (jA C H (g*2)).1 (g*2+1)).1
def dB.fI (M:dB) (n:aJ):dB×List aJ×Int:=
 if n.kind=1\/n.kind=2\/n.kind=3\/n.kind=4\/n.kind=5 then
  let r:=fD C M.home n
  (M.qH r.1,r.2.1,r.2.2)
 else if n.kind=8\/n.kind=9\/n.kind=10\/n.kind=11 then
  let r:=fT C n.core (M.dG n.core.toNat) n
  (M.uG n.core.toNat r.1,r.2.1,r.2.2)
 else if n.kind=6 then
  let r:=iO M.cE.dQ n.no
  (M,[sG n.core r.1 n.no],r.2)
 else if n.kind=12 then
  let r:=(M.cQ n.core.toNat).walked C n.no n.d0
  (M.Dy n.core.toNat r.1,if r.2.2.1 then [] else [dP 6 n.core r.2.1],r.2.2.2)
 else if n.kind=13 then
  let r:=(M.cQ n.core.toNat).drop C n.no
  (M.Dy n.core.toNat r.1,[dP 7 n.core n.no],r.2)
 else if n.kind=7 then
  let r:=M.cE.dropped C.aE n.no n.core
  (if r.2.1 then(M.iY r.1).qH (xE C M.home n.no) else M.iY r.1,[],r.2.2)
 else(M,[],15)
def dB.sB (M:dB) (A B D:Int):dB×Int:=
 let t:=M.kM.take C A B D
 if t.2.2≠0 then(M,t.2.2)
 else
  let r:=M.fI C t.2.1
  if r.2.2≠0 then(M,r.2.2)
  else
   let s:=t.1.send C r.2.1
   if s.2≠0 then(M,s.2) else(r.1.dN s.1,0)
def dB.Eu (M:dB) (line:Int) (world:Int):Int×Bool:=
 if C.has line then((M.cE.kT (line/2)).owner,!(M.cE.kT (line/2)).locked&&yV world (M.cE.kT (line/2)).owner) else(0,false)
def dB.begin (M:dB) (A:Int):dB×Int:=
 let r:=hU C M.home A (M.Eu C A)
 if r.2.2≠0 then(M,r.2.2)
 else
  let s:=M.kM.send C r.2.1
  if s.2≠0 then(M,s.2) else((M.dN s.1).qH r.1,0)
def Row.Ak (r:Row):Int:=(if r.busy=true/\r.served.kind=0 then 1 else 0)+((r.waits.filter fun n=>decide (n.kind=0)).length:Int)
def fG (H:kK) (l:Int):Int:=if C.has l then Row.Ak (H l.toNat).1 else 0
def dB.gZ (M:dB) (g:Int):Bool:=decide (M.cE.phase g=2)&& !(decide (fG C M.home (g*2)>0))&& !(decide (fG C M.home (g*2+1)>0))
def mR (H:kK) (g:Int):kK:=fun i=>if(i:Int)=g*2\/(i:Int)=g*2+1 then((H i).1,(0,0)) else H i
def dB.finish (M:dB) (A:Int):dB×Int:=
 if ¬(0<=A/\A<C.aN) then(M,10)
 else if M.gZ C A=false then(M,16)
 else
  let r:=M.cE.over A
  match r.2.1 with
  |none=>(M,r.2.2)
  |some u=>dB.bI (if u.jZ then(M.iY r.1).qH (mR M.home u.bK) else M.iY r.1) u.core.toNat 0 0
structure Do where
 nM:Int
 a:Int
 b:Int
 c:Int
 deriving DecidableEq
def Do.enc (d:Do):List Value:=[I d.nM,I d.a,I d.b,I d.c]
def dB.C9 (M:dB) (d:Do):dB×Int:=
 if d.nM=0 then M.step C d.a else if d.nM=1 then M.sB C d.a d.b d.c else if d.nM=2 then M.begin C d.a else if d.nM=3 then M.finish C d.a else(M,1)
def dB.wI (M:dB):List Do->Nat->dB×Nat×Int
 |[],k=>(M,k,0)
 |d::l,k=>if(M.C9 C d).2≠0 then((M.C9 C d).1,k,(M.C9 C d).2) else dB.wI (M.C9 C d).1 l (k+1)
def dB.runs (M:dB) (l:List Do):dB:=l.foldl (fun M d=>(M.C9 C d).1) M
def dB.notes (M:dB):List aJ:=(List.range C.aE.toNat).flatMap fun c=>(List.range 4).flatMap fun w=>M.kM c w
def dB.over (M:dB):Bool:=
 decide (M.notes C=[])&&((List.range C.aE.toNat).all fun i=>(M.aC i).over&& !(M.dG i).Dm&& !(M.cQ i).kY)&&((List.range C.lines).all fun l=>decide ((M.home l).1.waits=[]))
def dB.ready (M:dB):List Do:=
 ((List.range C.aE.toNat).filter fun i:Nat=> !(M.aC i).over&& !M.waits i).map (fun i:Nat=>(⟨0,i,0,0⟩:Do))++
 ((List.range C.aE.toNat).flatMap fun c=>((List.range 4).filter fun w=>decide (M.kM c w≠[])).map fun w:Nat=>(⟨1,c,w,0⟩:Do))++
 ((List.range C.lines).filter fun l=> !(M.home l).1.busy&&decide ((M.home l).1.waits≠[])).map (fun l:Nat=>(⟨2,l,0,0⟩:Do))++
 ((List.range C.aN.toNat).filter fun g:Nat=>M.gZ C g).map fun g:Nat=>(⟨3,g,0,0⟩:Do)
structure MC where
 C:bP
 tN:List (List Ins)
 pf:List Int
 bL:List Int
 words:List Int
def MC.oI (c:MC):Int:=At.oI c.C c.tN c.pf c.bL c.words
def MC.home (c:MC):kK:=fun i=>((rR c.C.lines i).1,At.words nH c.words 0 i)
def MC.new (c:MC):dB where
 aC:=fun i=>tT (c.tN.getD i []) (c.pf.getD i 0)
 dG:=fun _=>gV.new
 cQ:=fun _=>Ha
 home:=c.home
 cE:=⟨c.bL.map fun o=>⟨o,false⟩,fun _=>none⟩
 kM:=fun _ _=>[]
 log:=[]
end
end Go.Mc
section
open Go Go.Ab
attribute [local irreducible] bG Br pK sD tZ Cq mN wW lR Rs gX mT rA rG pJ kU zA vE V9 V4 Ro Ps Vv Qm Jp Nb Vm lB oL tX jK copyV iQ xK V7 V8 Hn lG Nc Sp V2 oA rY yU Ao Cl yO Vx tE sC kJ hT setLoop cT
namespace Go.Proofs.YtajjljbmfdboaaaGreatDoor
open Go Go.Ab Go.Hm Go.At Go.Mc
section
instance:Fx hZ.enc 2:=⟨fun _=>rfl,fun _=>rfl⟩
set_option maxRecDepth 100000
variable {G:Bg} {h:AH} {L L':List HP} {Q:Value->AH->Prop}
def gW (t:Nat) (es:List hZ):HP:=vD fun x:Option Addr×Nat=>sp [aG t 0 [.slice x.1 es.length x.2],ls hZ.enc 2 70 x.1 x.2 es]
theorem Fo {t:Nat} {es:List hZ} (b:Hs G h (gW t es::L)):∃a c,Hs G h (aG t 0 [.slice a es.length c]::ls hZ.enc 2 70 a c es::L):=by
 obtain⟨⟨a,c⟩,b⟩:=b.B4;exact⟨a,c,b.G5⟩
theorem jQ {t:Nat} {es:List hZ} {a:Option Addr} {c:Nat} (b:Hs G h (aG t 0 [.slice a es.length c]::ls hZ.enc 2 70 a c es::L)):Hs G h (gW t es::L):=
 Hs.zX (A:=fun x:Option Addr×Nat=>sp [aG t 0 [.slice x.1 es.length x.2],ls hZ.enc 2 70 x.1 x.2 es]) (a,c) b.Hu
theorem aEk {es:List hZ} {g:Int} (a:0<=g) (h:g<es.length):es[g.toNat]?=some (es.getD g.toNat iI):=by
 simp[List.getD_eq_getElem?_getD,List.getElem?_eq_getElem (show g.toNat<es.length by omega)]
theorem gn {t:Nat} {es:List hZ} {g:Int} (d:Hs G h L) [m:Has (gW t) L es L']
  (f:∀i,Hs G i (gW t es::L')->Q (if 0<=g/\g<es.length then .tuple ⟨[.agg ⟨(es.getD g.toNat iI).enc⟩,I 0]⟩ else .tuple ⟨[.agg ⟨iI.enc⟩,I 10]⟩) i):Cl Pr K 72 [pt t 0 0,I g] h Q:=by
 obtain⟨a,c,d⟩:=Fo (m.of d)
 refine cW (bQ d fun p h d=>dD (cG (bW (bA (aX (fun j=>?_) (fun j=>?_))))))
 .rw[aaa] at f;refine aQ (c:=iI.enc) rfl (ax d fun h d=>aR d (by decide) (l:=iI.enc) rfl rfl (f _ (jQ d.tail)))
 .refine aB (aA (am t d rfl (bU (dW (aX (fun k=>?_) (fun k=>?_))))))
  .rw[aaa] at f;refine aQ (c:=iI.enc) rfl (ax d fun h d=>aR d (by decide) (l:=iI.enc) rfl rfl (f _ (jQ d.tail)))
  .rw[aac] at f;refine aB (aA (am t d rfl (tO (l:=es) (a:=a) (c:=c) (enc:=hZ.enc) (e:=70) d (by decide) (by omega) (aEk (by omega) (by omega)) (ax d fun h d=>an p d (l:=(es.getD g.toNat iI).enc) rfl rfl (f _ (jQ (a:=a) (c:=c) d.to))))))
theorem F6 {t:Nat} {es:List hZ} {g:Int} {x:hZ} (d:Hs G h L) [m:Has (gW t) L es L']
  (f:∀j,Hs G j (gW t (if(0<=g/\g<es.length)/\(0<=x.owner/\x.owner<=4) then es.set g.toNat x else es)::L')->Q (I (if(0<=g/\g<es.length)/\(0<=x.owner/\x.owner<=4) then 0 else 10)) j):Cl Pr K 146 [pt t 0 0,I g,.agg ⟨x.enc⟩] h Q:=by
 obtain⟨a,c,d⟩:=Fo (m.of d)
 refine cW (dR d fun p h d=>dD (cG (bW (bA (aX (fun k=>?_) (fun k=>?_))))))
 .rw[aaa,aaa] at f;exact f _ (jQ d.tail)
 .refine aB (aA (am t d rfl (bU (dW (aX (fun q=>?_) (fun q=>?_))))))
  .rw[aaa,aaa] at f;exact f _ (jQ d.tail)
  .refine aA (am p d rfl (Fm (cH (eB (aX (fun u=>bW (aY d fun r h d=>?_)) (fun u=>?_))))))
   .rw[aac,aac] at f;refine aB (aA (am t d rfl (an p d (l:=x.enc) rfl rfl (Im (l:=es) (a:=a) (c:=c) (enc:=hZ.enc) (e:=70) (y:=x) d (by decide) (by omega) (by omega) fun h d=>f _ ?_))));have:Hs G h (aG t 0 [.slice a es.length c]::ls hZ.enc 2 70 a c (es.set g.toNat x)::L'):=d.to;rw[<-List.length_set (i:=g.toNat) (a:=x)] at this;exact jQ this
   .rw[aaa,aaa] at f;exact f _ (jQ d.tail)
theorem T9 {a:Option Addr} {c:Nat} {es:List hZ} (hb:es.length<=16) (i:Hs G h L) [m:Has (ls hZ.enc 2 70 a c) L es L']
  (g:∀b d f,Hs G f (ls hZ.enc 2 70 b d es::ls hZ.enc 2 70 a c es::L')->Q (.slice b es.length d) f):Cl Pr K 180 [.slice a es.length c] h Q:=
 cW (sF (e:=70) (show Hs G h (cN 2 70 a c (es.length,eL hZ.enc es)::L') from m.of i) (by omega) g)
theorem X9 {t:Nat} {es:List hZ} (hb:es.length<=16) (d:Hs G h L) [m:Has (gW t) L es L']
  (i:∀t' g,Hs G g (gW t' es::gW t es::L')->Q (pt t' 0 0) g):Cl Pr K 140 [pt t 0 0] h Q:=by
 obtain⟨a,c,d⟩:=Fo (m.of d)
 refine cW (dD (cG (aB (aA (am t d rfl (T9 hb d fun e f h d=>?_))))))
 refine aQ (c:=[.slice e es.length f]) rfl (dR d fun p h d=>i _ _ ?_)
 have d:Hs G h (aG t 0 [.slice a es.length c]::ls hZ.enc 2 70 a c es::aG p 0 [.slice e es.length f]::ls hZ.enc 2 70 e f es::L'):=d.to
 have d:=jQ d
 exact(jQ (show Hs G h (aG p 0 [.slice e es.length f]::ls hZ.enc 2 70 e f es::gW t es::L') from d.to)).to
theorem C6 (n:Nat):eJ [I 0,.bool false] n=eL hZ.enc (List.replicate n iI):=by
 induction n with
 |zero=>rfl
 |succ n a=>rw[List.replicate_succ,qM,<-a];rfl
theorem dj {n:Int} (i:1<=n/\n<=16) (b:Hs G h L) (g:∀f d,Hs G d (gW f (List.replicate n.toNat iI)::L)->Q (.tuple ⟨[pt f 0 0,I 0]⟩) d):Cl Pr K 145 [I n] h Q:=by
 refine cW (bA (aab (mC (aab (Qx (by omega) (by omega) (by omega) ?_)))));refine dL (W:=2) (n:=n.toNat) (c:=n.toNat) b (by rw[C6,sS,List.length_replicate]) rfl (by rw[C6];exact F2) ?_;intro a h b;refine aQ (c:=[.slice (some a) n.toNat n.toNat]) rfl (dR b fun p h b=>g _ _ ?_);rw[C6] at b;have e:(List.replicate n.toNat iI).length=n.toNat:=List.length_replicate;refine jQ (a:=some a) (c:=n.toNat) ?_;unfold ls;rw[e];exact b
theorem Ka {n g:Int} (b:0<=n/\n<=100) (c:0<=g/\g<=100) (a:Q (I (iR n g)) h):Cl Pr K 303 [I n,I g] h Q:=by
 refine cW (aad (rL (by omega) (E3 (by omega) (by omega) (by omega) (aad ?_))));unfold iR at a;show Q _ _;rw[show n+4 - 1=n+3 by omega];exact a
theorem qX {g:Int} (b:0<=g/\g<16) (a:Q (.tuple ⟨[I (g/4),I 0]⟩) h):Cl Pr K 257 [I g] h Q:=
 cW (bA (aab (dW (aab (E3 (by omega) (by omega) (by omega) a)))))
theorem pA {p:Nat} {a:Int} {x:hZ} {b:Bool} {e:Int} {z:List Value} (c:Hs G h (aG p 0 z::L)) (i:z.length=2) (g:∀d,Hs G d L->Q (.tuple ⟨[I a,.agg ⟨x.enc⟩,.bool b,I e]⟩) d):
  bG (tZ h 2 (pt p 0 0) (.agg ⟨x.enc⟩)) fun f=>bG (sD f 2 (pt p 0 0)) fun v5=>Q (.tuple ⟨[I a,v5,.bool b,I e]⟩) f:=
 bE c (by rw[i];rfl) rfl rfl rfl fun h c=>aR c (by decide) (l:=x.enc) rfl rfl (g _ c.tail)
end
end Go.Proofs.YtajjljbmfdboaaaGreatDoor
end
namespace Go.Proofs.YtajjljbmfdboaaaGreatDoor
open Go Go.Ab Go.Hm Go.At Go.Mc
section
theorem aF0 {x y:hZ} {k:Value->Prop} (g:k (.bool (decide (x≠y)))) {e:Bool} (hc:e=true:=by kernel_rfl):Nb e [0,1] .neq (.agg ⟨x.enc⟩) (.agg ⟨y.enc⟩) k:=by
 refine⟨hc,_,?_,g⟩;obtain⟨a,b⟩:=x;obtain⟨c,d⟩:=y;simp[Jp,oM,Nl,Qe,hZ.enc];by_cases f:a=c<;>cases b<;>cases d<;>simp[f]
set_option maxRecDepth 100000
attribute [local irreducible] bG Br pK sD tZ Cq mN wW lR Rs gX mT rA rG pJ kU zA vE V9 V4 Ro Ps Vv Qm Jp Nb Vm lB oL tX jK copyV iQ xK V7 V8 Hn lG Nc Sp V2 oA rY yU Ao Cl yO Vx tE sC kJ hT setLoop cT
variable {G:Bg} {h:AH} {L L':List HP} {Q:Value->AH->Prop}
theorem qu {b o n c a i:Nat} {k:Value->Prop} (d:i<n) (e:k (pt b (o+i*a) 0)):bG (lB a (.slice (some ⟨b,o,none⟩) n c) (I i)) k:=dM d e
theorem ml {p:Nat} {x:Int} {ws:List Int} (l:ws.length<1000) (d:Hs G h L) {a:Option Addr} {c:Nat} [m:Has (aG p 0) L [.slice a ws.length c] L'] {M:List HP} [k:Has (cN 1 3 a c) L' (ws.length,ws.map I) M]
  (j:∀e f i,Hs G i (aG p 0 [.slice e (ws++[x]).length f]::cN 1 3 e f ((ws++[x]).length,(ws++[x]).map I)::M)->Q (.tuple ⟨[]⟩) i):Cl Pr K 302 [I x,pt p 0 0] h Q:=by
 have d:Hs G h (cN 1 3 a c (ws.length,ws.map I)::aG p 0 [.slice a ws.length c]::M):=((m.of d).perm ((k.perm.cons _).trans (List.Perm.swap _ _ _)))
 refine cW (am p d rfl (aQ (c:=[I x]) rfl (dL (W:=1) (n:=1) (c:=1) d rfl rfl rfl fun g h d=>?_)))
 refine nY (a:=a) (c:=c) (n:=ws.length) (cs:=ws.map I) (a2:=some g) (c2:=1) (m:=1) (ns:=[I x]) d (by omega) fun e f h d=>?_
 refine ax (b:=p) (o:=0) d fun h d=>?_
 have:=j e f h
 rw[List.length_append,List.map_append] at this
 simp only[List.length_singleton,List.map_cons,List.map_nil] at this
 exact this d.to
def wsR (p:Nat) (ws:List Int):HP:=vD fun x:Option Addr×Nat=>sp [aG p 0 [.slice x.1 ws.length x.2],cN 1 3 x.1 x.2 (ws.length,ws.map I)]
theorem Ac {p:Nat} {x:Int} {ws:List Int} (i:ws.length<1000) (b:Hs G h L) [m:Has (wsR p) L ws L'] (g:∀d,Hs G d (wsR p (ws++[x])::L')->Q (.tuple ⟨[]⟩) d):yO Pr K (.func (.func 302) #[] #[pt p 0 0]) [I x] h Q:=by
 obtain⟨⟨a,c⟩,b⟩:=(m.of b).B4;have b:=b.G5;refine mZ rfl ?_;exact ml i b fun e f h b=>g _ (Hs.zX (A:=fun x:Option Addr×Nat=>sp [aG p 0 [.slice x.1 _ x.2],cN 1 3 x.1 x.2 (_,_)]) (e,f) b.Hu)
abbrev zw (t:Nat) (a:Option Addr) (c:Nat) (es:List hZ) (p:Nat) (ws:List Int) (L:List HP):List HP:=aG t 0 [.slice a es.length c]::ls hZ.enc 2 70 a c es::wsR p ws::L
theorem j5 {t p c:Nat} {a:Option Addr} {es:List hZ} (hb:es.length<=16) (A:∀r b k,Hs G r (cN 1 3 b k ((iC es).length,(iC es).map I)::gW t es::L)->Q (.slice b (iC es).length k) r) (B:∀x∈es,0<=x.owner/\x.owner<=4):
  ∀(f i:Nat) (ws:List Int) (h:AH),i+f=es.length->ws.length=i+16\/ws.length<=16+i->ws++(es.drop i).map Qt=iC es->Hs G h (zw t a c es p ws L)->
   Dd 256 6 [] Q [(pt p 0 0),(.func (.func 302) #[] #[pt p 0 0]),(.slice a es.length c),(I es.length),(I i)] h:=by
 intro f
 induction f with
 |zero=>
  intro i ws h z F j d
  refine bW (bA (aab ?_))
  rw[List.drop_of_length_le (by omega),List.map_nil,List.append_nil] at j
  subst j
  obtain⟨⟨b,k⟩,d⟩:=(d.front (wsR p (iC es))).B4
  have d:=d.G5
  refine am p d rfl (A _ _ _ ?_)
  have d:Hs G h (aG t 0 [.slice a es.length c]::ls hZ.enc 2 70 a c es::cN 1 3 b k ((iC es).length,(iC es).map I)::L):=d.to
  exact(jQ d).lK
 |succ f H=>
  intro i ws h z F j d
  obtain⟨x,u,y⟩:=nA (l:=es) (i:=i) (by omega)
  have D:=B x (List.mem_of_getElem? u)
  rw[y,List.map_cons] at j
  refine bW (bA (aae (bW (tO (l:=es) (a:=a) (c:=c) (enc:=hZ.enc) (e:=70) d (by decide) (by omega) u (bQ d fun m h d=>ax d fun h d=>aA (am m d rfl ?_))))))
  have g:∀(v:Int) (h:AH),v=Qt x->Hs G h (aG m 0 x.enc::zw t a c es p ws L)->yO Pr K (.func (.func 302) #[] #[pt p 0 0]) [I v] h fun v3 w=>bG (vE .add (I i) (I 1)) fun v4=>Dd 256 6 [] Q [(pt p 0 0),(.func (.func 302) #[] #[pt p 0 0]),(.slice a es.length c),(I es.length),v4] w:=by
   intro v h E d;refine Ac (p:=p) (ws:=ws) (by omega) d fun h d=>aad (H (i+1) (ws++[v]) h (by omega) (by simp;omega) ?_ d.to);rw[E,List.append_assoc];exact j
  refine dI (fun q=>bW (aA (am m d rfl (aad (g _ h ?_ d.to))))) (fun q=>bW (aA (am m d rfl (g _ h ?_ d.to))))
  .unfold Qt;rw[q];rfl
  .unfold Qt;rw[q];rfl
def kh (es:List hZ) (j n:Nat):List Int:=((List.range n).drop j).map (Nj es)
theorem dt {t p c:Nat} {a:Option Addr} {es:List hZ} (hb:es.length<=16) (V:∀J b H,Hs G J (cN 1 3 b H ((iC es).length,(iC es).map I)::gW t es::L)->Q (.slice b (iC es).length H) J) (N:∀x∈es,0<=x.owner/\x.owner<=4):
  ∀(f j:Nat) (ws:List Int) (h:AH),j+f=(es.length+3)/4->ws.length=j->ws++kh es j ((es.length+3)/4)=(List.range ((es.length+3)/4)).map (Nj es)->Hs G h (zw t a c es p ws L)->
   Dd 256 2 [] Q [(pt t 0 0),(pt p 0 0),(.func (.func 302) #[] #[pt p 0 0]),(I es.length),(I (4*j:Nat))] h:=by
 intro f
 induction f with
 |zero=>
  intro j ws h U Y q d
  refine bW (bA (aab (bW (aB (aA (am t d rfl (bU ?_)))))))
  unfold kh at q
  rw[List.drop_of_length_le (by rw[List.length_range];omega),List.map_nil,List.append_nil] at q
  refine j5 hb V N es.length 0 ws h (by omega) (.inr (by omega)) ?_ d
  rw[List.drop_zero,q];rfl
 |succ f Z=>
  intro j ws h U Y q d
  have w:4*j<es.length:=by omega
  obtain⟨x,D,_⟩:=nA (l:=es) (i:=4*j) w
  have u:es.getD (4*j) iI=x:=by rw[List.getD_eq_getElem?_getD,D];rfl
  have W:=N x (List.mem_of_getElem? D)
  have B:kh es j ((es.length+3)/4)=Nj es j::kh es (j+1) ((es.length+3)/4):=by
   unfold kh;rw[List.drop_eq_getElem_cons (by rw[List.length_range];omega),List.getElem_range,List.map_cons]
  rw[B] at q
  have step:∀(v:Int) (h:AH) (M:List HP),v=Nj es j->[Sub M L]->Hs G h (aG t 0 [.slice a es.length c]::ls hZ.enc 2 70 a c es::wsR p ws::M)->yO Pr K (.func (.func 302) #[] #[pt p 0 0]) [I v] h fun v3 P=>bG (vE .add (I (4*j:Nat)) (I 4)) fun v4=>Dd 256 2 [] Q [(pt t 0 0),(pt p 0 0),(.func (.func 302) #[] #[pt p 0 0]),(I es.length),v4] P:=by
   intro v h M X _ d;refine Ac (p:=p) (ws:=ws) (by omega) d fun h d=>aad ?_;rw[show((4*j:Nat):Int)+4=((4*(j+1):Nat):Int) by omega];refine Z (j+1) (ws++[v]) h (by omega) (by simp;omega) ?_ d.to;rw[X,List.append_assoc];exact q
  refine bW (bA (aae (bW (aB (aA (am t d rfl (cy (l:=es) (a:=a) (c:=c) (enc:=hZ.enc) (e:=70) (j:=0) d (by omega) (x:=x) (by rw[Int.toNat_natCast];exact D) rfl (aQ (c:=(⟨x.owner,false⟩:hZ).enc) rfl (bQ d fun r h d=>ax d fun h d=>aB (aA (am t d rfl (aad ?_))))))))))))
  refine aCc ?_
  rw[show(if(es.length:Int)<((4*j:Nat):Int)+4 then(es.length:Int) else((4*j:Nat):Int)+4)=((min (4*j+4) es.length:Nat):Int) by split<;>omega]
  refine zn (l:=es) (a:=a) (c:=c) (enc:=hZ.enc) (e:=70) d w (by omega) (by omega) fun b o R=>?_
  subst R
  refine bU ?_
  have z:(⟨x.owner,false⟩:hZ)=⟨(es.getD (4*j) iI).owner,false⟩:=by rw[u]
  have inner:∀(f i:Nat) (h:AH),i+f=min (4*j+4) es.length - 4*j->(((es.drop (4*j)).take 4).take i).all (fun y=>decide (y=⟨x.owner,false⟩))=true->Hs G h (aG r 0 (⟨x.owner,false⟩:hZ).enc::zw t (some ⟨b,o,none⟩) c es p ws L)->
    Dd 256 5 [] Q [(pt t 0 0),(pt p 0 0),(.func (.func 302) #[] #[pt p 0 0]),(I es.length),(I (4*j:Nat)),(pt r 0 0),(.slice (some ⟨b,o+4*j*2,none⟩) (min (4*j+4) es.length - 4*j) (c - 4*j)),(I (min (4*j+4) es.length - 4*j:Nat)),(I i)] h:=by
   intro f
   induction f with
   |zero=>
    intro i h T g d
    refine bW (bA (aab (bW (aA (am r d rfl (Ds (by dsimp only;omega) ?_))))))
    refine step _ h (aG r 0 (⟨x.owner,false⟩:hZ).enc::L) ?_ d.to
    unfold Nj F5
    rw[<-z]
    rw[List.take_of_length_le (by simp;omega)] at g
    rw[aJ7 g,u]
   |succ f F=>
    intro i h T g d
    obtain⟨y,E,_⟩:=nA (l:=es) (i:=4*j+i) (by omega)
    refine bW (bA (aae (bW (qu (by omega) ?_))))
    rw[show o+4*j*2+i*2=o+(4*j+i)*2 by omega]
    refine aC4 (l:=es) (c:=c) (enc:=hZ.enc) (e:=70) d (by decide) E (bQ d fun O h d=>ax d fun h d=>an O d (l:=y.enc) rfl rfl (an r d (l:=(⟨x.owner,false⟩:hZ).enc) rfl rfl (aF0 (aX (fun A=>?_) (fun A=>?_)))))
    .refine bW (Ka (by omega) (by omega) (Ds (by unfold iR;omega) (bN (by unfold iR;omega) ?_)));refine step _ h (aG O 0 y.enc::aG r 0 (⟨x.owner,false⟩:hZ).enc::L) ?_ d.to;unfold Nj;rw[aJ6];intro m;unfold F5 at m;rw[List.all_eq_true] at m;have:=m y (by
      refine List.mem_of_getElem? (i:=i) ?_;rw[List.getElem?_take_of_lt (by omega),List.getElem?_drop];exact E)
     rw[<-z] at this
     exact A (of_decide_eq_true this)
    .refine bW (aad ?_);have k:(((es.drop (4*j)).take 4).take (i+1)).all (fun y=>decide (y=⟨x.owner,false⟩))=true:=by
      rw[List.take_add_one,List.all_append,g,Bool.true_and];rw[List.getElem?_take_of_lt (by omega),List.getElem?_drop,E];simpa using A
     exact F (i+1) h (by omega) k d.to
  have:=inner (min (4*j+4) es.length - 4*j) 0 h (by omega) (by simp) d.to
  exact this
theorem dz {t:Nat} {es:List hZ} (hb:es.length<=16) (j:∀x∈es,0<=x.owner/\x.owner<=4) (d:Hs G h L) [m:Has (gW t) L es L'] (i:∀g b f,Hs G g (cN 1 3 b f ((iC es).length,(iC es).map I)::gW t es::L')->Q (.slice b (iC es).length f) g):
  Cl Pr K 256 [pt t 0 0] h Q:=by
 obtain⟨a,c,d⟩:=Fo (m.of d)
 refine cW (dD (cG (bW (bQ d fun p h d=>aB (aA (am t d rfl (bU ?_)))))))
 have d:=gK (W:=1) (e:=3) d
 have d:Hs G h (aG p 0 [.slice none 0 0]::cN 1 3 none 0 (0,[])::aG t 0 [.slice a es.length c]::ls hZ.enc 2 70 a c es::L'):=d.to
 have d:Hs G h (wsR p []::_):=Hs.zX (A:=fun x:Option Addr×Nat=>sp [aG p 0 [.slice x.1 0 x.2],cN 1 3 x.1 x.2 (0,[])]) (none,0) d.Hu
 exact dt (a:=a) (c:=c) hb i j ((es.length+3)/4) 0 [] h (by omega) rfl (by simp[kh]) d.to
theorem nr {t:Nat} {es:List hZ} {x:Int} (hb:es.length<=16) (j:∀x∈es,0<=x.owner/\x.owner<=4) (c:Hs G h L) [m:Has (gW t) L es L'] (a:∀d,Hs G d (gW t es::L')->Q (.tuple ⟨[I (iO es x).1,I (iO es x).2]⟩) d):
  Cl Pr K 204 [pt t 0 0,I x] h Q:=by
 unfold iO at a
 refine cW (dD (cG (bW (dz hb j c fun h b k c=>bA (aX (fun f=>?_) (fun f=>bU (dW (aX (fun g=>?_) (fun g=>?_)))))))))
 .rw[aaa] at a;exact a _ c.tail
 .rw[aaa] at a;exact a _ c.tail
 .rw[aac] at a;obtain⟨n,rfl⟩:=Int.eq_ofNat_of_zero_le (show 0<=x by omega);have i:n<(iC es).length:=by omega
  refine Gd (e:=3) (cs:=(iC es).map I) c (u:=I ((iC es).getD n 0)) (by simp[List.getD_eq_getElem?_getD,List.getElem?_eq_getElem i]) (a _ c.tail)
end
end Go.Proofs.YtajjljbmfdboaaaGreatDoor

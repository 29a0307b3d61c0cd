/- A part of the proof. -/
import Derived.Test.YtajjljbmfdboaaaGreatDoorM6
import Derived.Test.YtajjljbmfdboaaaGreatDoorM9
import Derived.Test.YtajjljbmfdboaaaGreatDoorM10
import Derived.KernelRfl
import Derived.Test.YtajjljbmfdboaaaGreatDoorM8
import Derived.Lib.ItoaNum
import Derived.Lib.Bytes
namespace Go.Proofs.YtajjljbmfdboaaaGreatDoor
open Go Go.Ab
section
set_option maxRecDepth 100000
noncomputable def K:FuncId->List Value->Option jE:=kn K0 25 (.bool true)
abbrev n_:FT:=⟨[],[],false,0,[]⟩
def tb0:List FT:=[n_,n_,n_,n_,n_,n_,n_,n_,n_,n_,⟨[(2,[0,1]),(14,[1,2]),(124,[1,2,5]),(2000,[1,2,5,7]),(4004,[1,2,5,7]),(126,[2,5]),(32720,[2,5,8,9,10]),(130888,[2,5,8,9,10]),(2046,[5,8,9]),(131024,[8,9,13,14]),(261779,[2,5,8,9,10,11]),(524104,[8,9,13,14]),(2096422,[8,9,13,14,15]),(268342248,[8,9,13,14,15,16,17,19,20]),(67085564,[8,9,13,14,15,16,19,20]),(268342260,[8,9,13,14,15,16,19]),(67085566,[8,9,13,14,15,16]),(268342270,[8,9,13,14,15,16]),(131027,[8,9,13,14]),(268342250,[8,9,13,14,15,16,17,19,20]),(536684502,[8,9,13,14,15,16,17,19,20]),(4293476176,[8,9,13,14,15,16,19,21]),(8586952356,[8,9,13,14,15,16,19,21])],[],false,688132,[]⟩,n_,n_,n_,n_,⟨[(2,[0,1]),(14,[0,1]),(488,[0,1,6,13,14,15]),(7832,[0,1,6,13,14,15]),(31334,[0,1,6,7,8,13,14,15]),(1959,[0,1,6,13,14,15])],[],false,41280,[]⟩]
def tb1:List FT:=[n_,⟨[(2,[0,11]),(30,[2,3,11]),(500,[4,11])],[(250,[4,11])],true,48,[]⟩,n_,n_,⟨[(2,[0,1,15]),(28,[2,3,4,15]),(116,[2,3,4,15])],[(58,[2,3,4,15])],true,84,[]⟩,n_,n_,n_,n_,⟨[(2,[]),(124,[2]),(2000,[2,4]),(8008,[2,4]),(126,[2]),(512592,[2,4,5]),(1025188,[2,4,5]),(16019,[2,4])],[],false,66,[]⟩,n_,n_,n_,n_,⟨[(2,[0]),(208,[1,3]),(840,[1,3]),(211,[1,3])],[],false,2,[]⟩,⟨[(2,[0]),(14,[1]),(488,[1,6,39,40]),(7832,[1,6,39,40]),(62,[1,6]),(62670,[1,6,7,8,39,40]),(508,[1,6]),(250686,[1,6,8,10,39,40]),(4072,[1,6,128,129,130]),(1002750,[1,6,8,10,11,39,40]),(65176,[1,6,128,129,130]),(1020,[1,6]),(16295,[1,6,128,129,130]),(2044,[1,6])],[],false,1701411834604692317316873038258352685058,[]⟩]
def tb2:List FT:=[⟨[(2,[0,1,2,3,4]),(28,[1,2,3,4,5]),(60,[1,2,3,4,5]),(488,[1,2,3,4,5,56,57,58]),(7832,[1,2,3,4,5,56,57,58]),(124,[1,2,3,4,5]),(1959,[1,2,3,4,5,56,57,58]),(126,[1,2,3,4,5]),(1020,[1,2,3,4,5,17]),(8168,[1,2,3,5,17,87,88,89]),(130712,[1,2,3,5,17,87,88,89]),(1022,[1,2,3,5,17]),(32679,[1,2,3,5,17,87,88,89]),(32744,[1,2,22,115,116]),(523928,[1,2,22,115,116])],[],false,83076750510269766970138583269113888,[(25,[(0,10),(1,10),(2,10),(6,5)])]⟩,n_,n_,n_,⟨[(2,[0,1,2]),(28,[0,1,2]),(30,[0,1,2])],[],false,0,[]⟩,⟨[(2,[0]),(30,[0,2,4]),(4052,[0,2,4,6,7]),(4054,[0,2,4,6,7,26]),(16220,[0,2,4,6,7]),(16222,[0,2,4,6,7,26]),(254,[0,2,6,7]),(64894,[0,2,4,6,7,26]),(259580,[0,2,4,6,7]),(259582,[0,2,4,6,7,26]),(1038326,[0,2,4,6,7]),(1038327,[0,2,6,7]),(1038332,[0,2,4,6]),(1038334,[0,2,4,6,7,26]),(4153340,[0,2,4,6,7]),(16613366,[0,2,4,6])],[],false,67108948,[]⟩,⟨[(2,[0,1,2]),(14,[0,1,2,6]),(124,[0,1,2,6,8]),(126,[0,1,2,6,8]),(8164,[0,2,6,8,10]),(8166,[0,1,2,6,8,10]),(1022,[0,6,10]),(32670,[0,1,6,8,10]),(65342,[0,6,8,10]),(130686,[0,1,6,8,10])],[],false,1344,[(9,[(8,12)])]⟩,⟨[(2,[0])],[],false,4,[]⟩,n_,⟨[(2,[0]),(30,[0,2,4]),(16002,[2,6]),(256004,[0,2,4,6,31]),(2001,[0,2,4,6]),(256006,[0,2,4,6,31]),(2004,[0,2,4,6])],[],false,2147483732,[]⟩,⟨[(2,[0])],[],false,20,[]⟩,n_,n_,n_,n_,n_]
def tb3:List FT:=[n_,n_,⟨[(2,[0])],[],false,0,[]⟩,n_,n_,⟨[(2,[])],[],false,1,[]⟩,n_,n_,n_,⟨[(2,[0,1,20]),(436,[2,5,20])],[(218,[2,5,20])],true,36,[]⟩,⟨[(2,[0])],[],false,0,[]⟩,⟨[(2,[0,1])],[],false,16,[]⟩,n_,n_,n_,⟨[(2,[0])],[],false,2,[]⟩]
def tb4:List FT:=[n_,n_,n_,n_,n_,n_,n_,⟨[(2,[0]),(58,[0,3])],[],false,8,[]⟩,⟨[(2,[0,1]),(28,[0,1,4])],[],false,16,[]⟩,n_,n_,n_,⟨[(2,[0]),(14,[0]),(488,[3,27,28]),(7832,[3,27,28])],[],false,268435456,[(3,[(5,4),(5,17),(6,4),(6,17),(7,4),(7,17),(8,4),(8,17),(9,4),(10,4),(11,4),(12,4)]),(7,[(0,16),(1,16),(2,16),(3,16),(4,16)])]⟩,⟨[(2,[0,26]),(14,[1,2,26]),(244,[1,3,26])],[(122,[1,3,26])],true,10,[(3,[(5,4),(6,4),(7,4),(8,4),(9,4),(10,4),(11,4),(12,4)])]⟩,⟨[(2,[0]),(14,[0]),(488,[3,19,20]),(7832,[3,19,20]),(125336,[3,4,19,20,24,25]),(2005400,[3,4,19,20,24,25]),(1959,[3,19,20])],[],false,34603040,[(10,[(0,9),(1,9),(2,9),(5,4),(6,4),(7,4)])]⟩,n_]
def tb5:List FT:=[⟨[(2,[0]),(14,[0])],[],false,8,[]⟩,⟨[(2,[0]),(14,[0])],[],false,8,[]⟩,n_,⟨[(2,[0,1]),(28,[1,2]),(30,[1,2])],[],false,4,[]⟩,⟨[(2,[0,1])],[],false,0,[]⟩,⟨[(2,[0]),(14,[1]),(62,[1,5]),(2024,[7,33,34]),(32408,[7,33,34])],[],false,17179869186,[(7,[(0,8),(1,8)])]⟩,⟨[(2,[0,1,2]),(30,[2,7])],[],false,0,[]⟩,⟨[(2,[0,1]),(28,[0,1]),(232,[0,1,30,31,32]),(3736,[0,1,30,31,32]),(30,[0,1]),(935,[0,1,30,31,32]),(126,[0,1,8]),(4072,[10,57,58,59]),(65176,[10,57,58,59]),(16295,[10,57,58,59])],[],false,720575945747988480,[]⟩,⟨[(2,[0]),(14,[1]),(488,[1,5,19,20]),(7832,[1,5,19,20]),(125336,[1,5,6,19,20,23]),(2005400,[1,5,6,19,20,23]),(1959,[1,5,19,20]),(8021607,[1,5,6,7,8,19,20,23])],[],false,9437186,[]⟩,⟨[(2,[0]),(1768,[3,4,22,23]),(28312,[3,4,22,23]),(226508,[]),(7079,[3,4,22,23])],[],false,8388618,[]⟩,⟨[(2,[0])],[],false,0,[]⟩,⟨[(2,[0]),(28,[0]),(232,[0,10,11,12]),(3736,[0,10,11,12]),(935,[0,10,11,12])],[],false,5152,[]⟩,⟨[(2,[0,1,2]),(104,[0,1,9,10,11]),(1688,[0,1,9,10,11]),(423,[0,1,9,10,11])],[],false,2560,[]⟩,⟨[(2,[0]),(14,[1]),(488,[1,5,20,21]),(7832,[1,5,20,21])],[],false,2097154,[]⟩,⟨[(2,[0])],[],false,0,[]⟩,⟨[(2,[0])],[],false,0,[]⟩]
def tb6:List FT:=[⟨[(2,[0,1])],[],false,0,[]⟩,n_,⟨[(2,[0,1])],[],false,0,[]⟩,⟨[(2,[0,1])],[],false,16,[]⟩,⟨[(2,[0,1])],[],false,0,[]⟩,n_,n_,n_,n_,n_,n_,n_,n_,n_,⟨[(2,[0,1]),(14,[0,3]),(124,[0,3,5]),(252,[0,3,5]),(2028,[0,6]),(508,[0,3,5]),(510,[0,3,5])],[],false,1352,[(10,[(0,10)])]⟩,⟨[(2,[0,1]),(62,[0,5,6]),(508,[0,5,8,9]),(510,[0,5,9])],[],false,72,[]⟩]
def tb7:List FT:=[⟨[(2,[0,1]),(124,[0,5,6]),(126,[0,5])],[],false,0,[]⟩,⟨[(2,[0,1]),(28,[0,3]),(30,[0,3]),(252,[0,5]),(506,[0,5])],[],false,40,[(5,[(9,13)])]⟩,n_,⟨[(2,[0,1,2])],[],false,0,[]⟩,n_,n_,⟨[(2,[0])],[],false,0,[]⟩,⟨[(2,[0,1])],[],false,0,[]⟩,⟨[(2,[0,1])],[],false,0,[]⟩,⟨[(2,[0,1]),(14,[0,1]),(250,[5,6]),(252,[5,6]),(2024,[6,36,37,38]),(32408,[6,36,37,38]),(129638,[6,36,37,38]),(8103,[6,36,37,38])],[],false,343597383936,[]⟩,⟨[(2,[0])],[],false,0,[]⟩,⟨[(2,[0])],[],false,0,[]⟩,n_,⟨[(2,[0,1])],[],false,0,[]⟩,n_,n_]
def tb8:List FT:=[n_,n_,n_,⟨[(2,[0])],[],false,0,[]⟩,⟨[(2,[0,1]),(24,[0,5,6,7]),(408,[0,5,6,7]),(103,[0,5,6,7])],[],false,176,[]⟩,n_,n_,n_,n_,⟨[(2,[0]),(14,[0]),(488,[3,22,23]),(7832,[3,22,23])],[],false,8388608,[(3,[(0,12),(1,12),(2,12),(3,12)]),(7,[(0,16),(1,16),(2,16),(3,16),(4,16)])]⟩,⟨[(2,[0])],[],false,0,[]⟩,⟨[(2,[0])],[],false,0,[]⟩,⟨[(2,[0])],[],false,0,[]⟩,⟨[(2,[0])],[],false,0,[(3,[(0,12),(1,12),(2,12),(3,12)])]⟩,⟨[(2,[0]),(14,[0]),(488,[3,23,24,25]),(7832,[3,23,24,25])],[],false,41943040,[(7,[(0,8),(1,8),(2,8),(3,8),(4,8)])]⟩,⟨[(2,[0,1])],[],false,0,[]⟩]
def tb9:List FT:=[⟨[(2,[0,1]),(14,[0,1]),(62,[0,6,7])],[],false,0,[]⟩,⟨[(2,[0])],[],false,0,[]⟩,⟨[(2,[0,1,2]),(28,[0,1,5]),(30,[0,1,5])],[],false,32,[]⟩,⟨[(2,[0])],[],false,0,[]⟩,⟨[(2,[0,1,14,15]),(26,[2,3,4,14,15]),(1768,[3,5,14,15])],[(442,[3,5,14,15])],true,36,[]⟩,n_,n_,n_,⟨[(2,[0,1])],[],false,0,[]⟩,⟨[(2,[0,1,2]),(30,[0,5,7]),(1000,[0,5,7,10,34,35]),(16024,[0,5,7,10,34,35]),(252,[0,7,10]),(254,[0,7])],[],false,34359738400,[]⟩,⟨[(2,[0,1,2]),(30,[0,1,5,7,8]),(126,[0,1,5,7,8,10]),(1020,[0,1,5,7,8,10,11]),(16342,[0,1,5,7,8,10,69]),(1022,[0,1,5,7,8,10]),(4094,[0,1,5,7,8,12]),(65524,[0,1,5,7,8,12]),(32764,[0,1,5,7,8,12,13]),(131060,[0,1,5,7,8,12,13])],[],false,590295810358705651744,[]⟩,⟨[(2,[0,1,2,3]),(14,[0,1,2,3,8])],[],false,256,[]⟩,⟨[(2,[0,1,48]),(53,[2,3,27,28,48]),(422,[2,3,27,48]),(212,[2,3]),(428,[2,3,27,28]),(1694,[2,3,27,48]),(215,[2,3,27,28,48]),(1718,[2,3,27,28]),(6782,[2,3,27,48]),(860,[2,3]),(862,[2,3,27]),(6878,[2,3,27,28]),(13567,[2,3,27]),(3452,[2,3]),(3454,[2,3,27]),(13759,[2,3,27]),(13820,[2,3]),(13822,[2,3,27]),(442298,[2,3,15,16,18,19]),(55292,[2,3]),(55294,[2,3,27]),(221180,[2,3])],[],false,160466060,[]⟩,⟨[(2,[0,1]),(28,[0,1]),(232,[0,1,20,21,22]),(3736,[0,1,20,21,22]),(30,[0,1]),(935,[0,1,20,21,22]),(1000,[0,1,8,36,37,38]),(16024,[0,1,8,36,37,38]),(252,[0,1]),(128206,[0,1,8,10,11,36,37,38]),(2024,[0,73,74,75]),(4007,[0,1,8,36,37,38]),(32408,[0,73,74,75]),(259278,[0,14,15,73,74,75]),(8103,[0,73,74,75])],[],false,47223678339838936892736,[(18,[(0,12),(1,12),(2,12),(3,12),(4,12),(5,12)]),(27,[(5,4)])]⟩,⟨[(2,[0,1,2]),(28,[0,1,2]),(60,[0,1,2]),(62,[0,1,2]),(508,[0,1,2,8]),(510,[0,1,2,8]),(130984,[0,1,8,9]),(130988,[0,1,2,8,9,51]),(261970,[0,1,8,9]),(130986,[1,8,9]),(65495,[0,1,2,8,9,82]),(261979,[0,1,2,8,9,51]),(261980,[0,1,2,9]),(8188,[0,1,2,8,9,82]),(8190,[1,8,9])],[],false,2251799813685760,[(28,[(1,8),(2,8)])]⟩,⟨[(2,[0,1]),(28,[0,1,4]),(30,[0,1,4]),(252,[0,1,4,8]),(254,[0,1,4,8])],[],false,272,[]⟩]
def aJ7:List FT:=[⟨[(2,[0,1,26]),(28,[1,2,4,26]),(60,[1,2,4,26]),(244,[2,4,26])],[(122,[2,4,26])],true,20,[]⟩,⟨[(2,[0,1,2,3]),(30,[0,9])],[],false,512,[(4,[(0,10)])]⟩,⟨[(2,[0,1]),(24,[0,5,6,7]),(408,[0,5,6,7]),(103,[0,5,6,7])],[],false,176,[]⟩,n_,n_,n_,⟨[(2,[0,1]),(24,[0,5,6,7]),(408,[0,5,6,7]),(103,[0,5,6,7])],[],false,160,[]⟩,⟨[(4,[0,1,2]),(6,[0,2]),(56,[0,2,18]),(920,[0,2,18]),(231,[0,2,18])],[],false,262144,[]⟩,⟨[(2,[0])],[],false,0,[]⟩,⟨[(2,[0])],[],false,0,[]⟩,n_,n_,n_,n_,⟨[(2,[0])],[],false,0,[]⟩,⟨[(2,[0])],[],false,0,[]⟩]
def aK5:List FT:=[n_,⟨[(2,[0,1]),(14,[0,1])],[],false,0,[]⟩,⟨[(2,[0])],[],false,0,[]⟩,⟨[(2,[0])],[],false,0,[]⟩,⟨[(2,[0])],[],false,0,[]⟩,⟨[(2,[0])],[],false,0,[]⟩,⟨[(2,[0,1])],[],false,0,[]⟩,⟨[(2,[0])],[],false,0,[]⟩,⟨[(2,[0])],[],false,0,[]⟩,⟨[(2,[0])],[],false,0,[]⟩,⟨[(2,[0,1,2]),(214,[1,2,7]),(862,[1,2,7]),(3454,[1,2,7]),(13822,[1,2,7])],[],false,128,[]⟩,n_,⟨[(2,[0,1,2]),(437,[0,1,5,8,22]),(3494,[0,1,5,8,21]),(3496,[0,1,5,8]),(6991,[0,1,5,8,21]),(3498,[0,1,5,8]),(13998,[0,1,5,8,9]),(111994,[0,1,5,8,9,11]),(111996,[1,5,9,11]),(223994,[1,5]),(223995,[1,5,9,11])],[],false,2097184,[]⟩,n_,⟨[(2,[0,1,48]),(28,[2,3,4,5,48]),(30,[2,3,4,5,48]),(252,[2,3,4,5,6,48]),(508,[2,3,4,5,6,48]),(2036,[2,3,4,5,48]),(4092,[2,3,4,5,6,9,10]),(4094,[2,3,4,5,9,10]),(131048,[2,3,4,5,12,98,99]),(2096792,[2,3,4,5,12,98,99]),(16382,[2,3,4,5,12])],[(1018,[2,3,4,5,48])],true,633825300114114700748351606908,[(5,[(9,13)])]⟩,⟨[(2,[0,1])],[],false,0,[]⟩]
def aK3:List FT:=[⟨[(2,[0,1,2]),(28,[0,1,2]),(30,[0,1,2]),(998,[0,1,8])],[],false,0,[]⟩,⟨[(2,[0,1,2]),(124,[0,1,7,8]),(126,[0,1,7])],[],false,0,[]⟩,⟨[(2,[0,1,2,18,19]),(872,[5,7,18,19])],[(218,[5,7,18,19])],true,128,[]⟩,⟨[(2,[0,1,2,3]),(14,[0,1,2,3])],[],false,512,[]⟩,⟨[(2,[0,1,2,3]),(124,[0,1,9,10]),(126,[0,1,9])],[],false,0,[]⟩,⟨[(2,[0,1,2,3]),(14,[0,1,2])],[],false,2048,[]⟩,⟨[(2,[0,1,2,3,4]),(14,[0,1,2,4]),(124,[0,1,2,4,12]),(126,[0,1,2,4,12])],[],false,4096,[]⟩,⟨[(2,[0,1]),(52,[0,1,4]),(54,[0,1,4]),(442,[0,4,6]),(222,[0,4,6]),(28648,[0,4,6,7,8,40,41,42]),(458392,[0,4,6,7,8,40,41,42]),(3582,[0,4,7,8]),(7334292,[0,4,6,7,8,10,40,41,42]),(916787,[0,4,6,7,8,10,40,41,42])],[],false,5497558140048,[]⟩,⟨[(2,[0,1]),(28,[0,3]),(117,[0,3,11]),(934,[0,3,10]),(60,[0,3,11]),(3742,[0,3,10]),(62,[0,3]),(14974,[0,3,10]),(8104,[3,6]),(4054,[0,3,6,45]),(29951,[0,3,10]),(4053,[6]),(32440,[0,3,6]),(8111,[3,6])],[],false,35184372089864,[(14,[(0,10)])]⟩,n_,⟨[(2,[0,1]),(28,[0,3]),(232,[0,3,10,11,12]),(3736,[0,3,10,11,12]),(935,[0,3,10,11,12]),(29900,[0,3,7])],[],false,5256,[]⟩,n_,⟨[(2,[0,1]),(14,[0,1])],[],false,0,[]⟩,n_,⟨[(2,[0,1,2]),(28,[0,1,2]),(60,[0,1,2]),(62,[0,1,2]),(508,[0,1,2,9]),(2036,[0,9]),(510,[0,1,2,9]),(4092,[0,6,7,9,10]),(8186,[0,9,10]),(8188,[0,6,7,10]),(32756,[0,6]),(8190,[0,10])],[],false,1024,[(14,[(15,22),(16,22)])]⟩,⟨[(1,[0,1,2])],[],false,0,[]⟩]
def aKc:List FT:=[⟨[(2,[0,1]),(28,[0,3]),(30,[0,3]),(1018,[0,7])],[],false,72,[]⟩,⟨[(1,[0,1,2])],[],false,0,[]⟩,⟨[(2,[0,1,2]),(28,[0,1,2]),(30,[0,1,2]),(252,[0,1,2,10]),(254,[0,1,2,10]),(4090,[0,1,10,11]),(2046,[0,1,10,11])],[],false,1024,[]⟩,n_,⟨[(2,[0,1,11]),(28,[2,11])],[(14,[2,11])],true,4,[]⟩,⟨[(2,[0,1,22]),(52,[2,3,4,22]),(54,[2,3,4,22]),(3572,[2,3,5,6,22])],[(1786,[2,3,5,6,22])],true,108,[]⟩,⟨[(2,[0])],[],false,0,[]⟩,⟨[(2,[0,1,2])],[],false,0,[]⟩,⟨[(2,[0,1]),(28,[0,1]),(30,[0,1])],[],false,0,[]⟩,⟨[(2,[0,1,2]),(30,[5,7,8])],[],false,1048576,[]⟩,⟨[(2,[0,1])],[],false,0,[]⟩,n_,⟨[(2,[0,1,2,3]),(488,[0,1,7,9]),(124,[0,1,7,9]),(250,[0,1,9]),(252,[0,1,9])],[],false,128,[(2,[(1,10),(2,10),(2,13),(3,10),(4,10),(4,13)])]⟩,⟨[(2,[0,1,20]),(872,[0,1,5,11,12,20]),(13976,[0,1,5,11,12,20]),(3495,[0,1,5,6,11,12,20]),(447276,[0,1,5,6,7,11,12]),(223639,[0,1,5,6,11,12,20]),(894555,[0,1,5,6,11,12]),(894556,[6])],[],false,4096,[]⟩,⟨[(2,[0,1,2,3,12]),(116,[4,5,6,9,12])],[(58,[4,5,6,9,12])],true,512,[]⟩,⟨[(2,[0,1])],[],false,0,[]⟩]
def aJx:List FT:=[n_,⟨[(2,[0,1,7]),(52,[2,7])],[(26,[2,7])],true,4,[]⟩,⟨[(2,[0,1,2,3]),(112,[0,1,2,3,8,9]),(908,[0,1,2,3,8,9,10]),(1820,[0,1,2,3,8,9,10]),(7284,[0,1,2,3,8,9,10]),(1822,[0,1,2,3,8,9,10]),(29172,[0,1,2,3,8,9,10,11]),(14588,[0,1,2,3,8,9,10,11,12]),(58356,[0,1,2,3,8,9,10,11]),(29180,[0,1,2,3,8,9,10,11]),(116724,[0,1,2,3,8,9,11]),(29182,[0,1,2,3,10,11]),(1867772,[0,1,2,3,9,14,16,18]),(1867774,[0,1,2,3,9,14,17,18])],[],false,0,[]⟩,n_,n_,n_,n_,n_,n_,n_,n_,n_,⟨[(2,[0]),(52,[0]),(28,[0,2]),(116,[0,2])],[],false,0,[]⟩,⟨[(2,[0]),(52,[0]),(28,[0,2]),(116,[0,2]),(60,[0,2]),(244,[0,2])],[],false,0,[]⟩,⟨[(2,[0,1])],[],false,4,[]⟩,⟨[(2,[0,1]),(24,[0,1,11,12]),(408,[0,1,11,12]),(103,[0,1,11,12])],[],false,4096,[]⟩]
def aJr:List FT:=[⟨[(2,[0,1,2]),(30,[0,1,7])],[],false,0,[]⟩,⟨[(2,[0,1,2,3]),(28,[0,1,2,3]),(1872,[1,2,3]),(470,[1,2,3,21]),(7494,[2,3]),(7536,[1,2]),(1886,[1,2,3,21]),(29982,[3]),(30150,[1,2]),(30192,[1,2,3]),(7550,[1,2,21]),(120774,[2,3]),(120816,[1,2]),(483270,[1,2])],[],false,2097152,[]⟩,⟨[(2,[0,1])],[],false,0,[]⟩,⟨[(2,[0,1])],[],false,0,[]⟩,⟨[(2,[0,1]),(28,[0,1]),(60,[0,1]),(124,[0,1]),(126,[0,1]),(510,[0,1,6])],[],false,0,[]⟩,⟨[(2,[0,1]),(60,[4,6,7])],[],false,16,[]⟩,⟨[(2,[0,1])],[],false,4,[]⟩,⟨[(2,[0,1,2,3]),(102,[0,1,2,3]),(414,[0,1,2,3]),(1662,[0,1,2,3]),(28,[0,1,2,3]),(30,[0,1,2,3]),(508,[0,1,2,3,12,13,14]),(4072,[0,1,2,3,12,13]),(510,[0,1,2,3,12]),(4074,[0,1,2,3,12,13]),(8186,[0,1,2,12]),(16302,[0,1,2,3,12,13,16])],[],false,66560,[(23,[(0,15),(1,15),(2,15),(3,15),(4,15),(5,15),(6,15),(7,15),(8,15),(9,15)])]⟩,⟨[(2,[0,1,2,3,4]),(102,[0,1,2,3,4]),(414,[0,1,3,4])],[],false,0,[]⟩,⟨[(2,[0,1])],[],false,16,[(4,[(0,5)])]⟩,⟨[(2,[0]),(28,[0])],[],false,0,[]⟩,⟨[(2,[0,1,2]),(60,[0,1,5,7,8]),(122,[0,1,5,7,8]),(124,[0,1,5,7]),(126,[1,5,7])],[],false,0,[(8,[(0,10)])]⟩,⟨[(2,[0])],[],false,0,[]⟩,⟨[(2,[0,1]),(7684,[0,3,5]),(30722,[0,3,5]),(30742,[0,3,5]),(124,[0,3,5]),(962,[0,3,5]),(484,[0,3,5]),(252,[0,3,5]),(970,[0,3,5]),(1012,[5])],[],false,8,[(9,[(0,9),(1,9),(2,9),(6,5),(7,5)]),(11,[(1,9),(2,9),(3,9)])]⟩,n_,⟨[(2,[0,1])],[],false,0,[]⟩]
def aJl:List FT:=[⟨[(2,[0]),(26,[0]),(14288,[0,3,4,5,6]),(57160,[0,3,4,5,6]),(1788,[0,3,4]),(1829160,[0,3,4,5,6,7,43,44,45]),(14312,[3,4,68,69,70]),(29266584,[0,3,4,5,6,7,43,44,45]),(114323,[0,3,4,5,6,7]),(229016,[3,4,68,69,70]),(234132684,[0,3,4,5,6]),(7316647,[0,3,4,5,6,7,43,44,45]),(916070,[3,4,11,68,69,70]),(916071,[3,4,11,68,69,70])],[],false,1475739569877229243016,[]⟩,⟨[(2,[0])],[],false,0,[]⟩,⟨[(2,[0,1,2,3]),(14,[0,1,2,3,9]),(1960,[0,3,9,12,13]),(982,[3,9,13,35]),(1962,[3,9]),(7864,[3,9]),(7866,[3,9])],[],false,34359738880,[]⟩,⟨[(2,[0,1]),(26,[0,3])],[],false,0,[(3,[(0,10)])]⟩,⟨[(2,[0,1])],[],false,0,[]⟩,⟨[(2,[0,1]),(60,[0,1,5]),(976,[0,1,5,6]),(3912,[0,1,5,6]),(62,[0,5]),(31308,[0,1,5,6,7]),(979,[0,1,5,6])],[],false,128,[]⟩,⟨[(2,[0,1])],[],false,0,[]⟩,⟨[(2,[0,1]),(28,[0,1]),(30,[0,1])],[],false,0,[]⟩,⟨[(2,[0])],[],false,0,[]⟩,⟨[(2,[0])],[],false,0,[]⟩,⟨[(2,[0,1,19]),(214,[2,5,19]),(1724,[2,5,19]),(863,[2,5,14,19]),(3451,[2,5]),(6908,[2,5,14]),(3455,[2,5,14,19]),(27638,[2,5,14]),(13822,[2,5]),(55279,[2,5]),(55294,[2,5]),(221182,[2,5]),(1769464,[2])],[],false,36,[]⟩,⟨[(2,[0,1,2]),(214,[2,3,7]),(862,[2,3,7]),(3454,[2,3,7]),(13822,[2,3,7]),(55294,[2,3,7]),(221182,[2,3,7]),(1769468,[2,3,7]),(884735,[2,3,7,72]),(3538939,[2,3,7]),(3538942,[2,3,7]),(14155774,[2,3,7])],[],false,136,[]⟩,⟨[(2,[0,1,2,30]),(54,[0,2,6,30]),(444,[0,2,6,30]),(223,[0,2,6,23,30]),(891,[0,2,6]),(1788,[0,2,6,23]),(895,[0,2,6,23,30]),(7158,[0,2,6,23]),(3582,[0,2,6]),(14319,[0,2,6]),(14334,[0,2,6]),(57342,[0,2,6])],[],false,64,[]⟩,⟨[(2,[0])],[],false,0,[]⟩,n_,⟨[(2,[0,1]),(250,[0,1,5,6,7]),(504,[5,6,7]),(2020,[5,6,7]),(2022,[5,6,7]),(8092,[5,6,7]),(8094,[5,6,7])],[],false,128,[]⟩]
def aK4:List FT:=[⟨[(2,[0,1,2]),(24,[0,1,2,9,10]),(408,[0,1,2,9,10]),(103,[0,1,2,9,10]),(1638,[0,1,2,4,9,10])],[],false,1024,[]⟩,⟨[(2,[0,1,2]),(48,[0,1,2,6]),(200,[0,1,2,6]),(3216,[0,1,2,6,7]),(6436,[0,1,2,6,7]),(51,[0,1,2,6])],[],false,0,[(6,[(2,17),(3,17),(4,17)])]⟩,⟨[(2,[0,1,2]),(976,[0,6,7,8,9]),(1956,[0,6,7,8,9]),(62,[0,6,7,8]),(1008,[0,6,7,10]),(4040,[0,6,7,10])],[],false,0,[(10,[(2,19),(3,19),(4,19),(5,19)])]⟩,⟨[(2,[0,1,2]),(28,[0,1,6]),(1904,[0,1,6,7,8,9]),(7624,[0,1,6,7,8,9]),(61002,[0,1,6,7,8,9,10]),(15251,[0,1,6,7,8,9,10])],[],false,128,[(10,[(2,19),(3,19),(4,19),(5,19)])]⟩,⟨[(2,[0,1,2]),(4072,[0,8,9,10,11,12]),(510,[9,11]),(16292,[0,9,10,11,12]),(2037,[0,9,10,11,12]),(8182,[11,49])],[],false,562949953421824,[]⟩,⟨[(2,[0,1,2]),(112,[0,6,7]),(228,[0,6,7])],[],false,0,[(3,[(2,15),(3,15)])]⟩,⟨[(2,[0,1,2]),(464,[0,1,2,7,8]),(29824,[0,1,2,7,8]),(29826,[0,1,2,7,8]),(7460,[0,1,2,7,8]),(14924,[0,1,2,7,8]),(14926,[0,1,2,7,8]),(238836,[0,1,2,7,8]),(59710,[0,1,2,7,8]),(3821392,[0,1,2,7,8,9]),(238844,[0,1,2,7,8]),(467,[0,1,2,7,8]),(30571152,[0,1,2,7,8,9]),(3821520,[0,1,2,7,8,10]),(15285577,[0,1,2,7,8,9]),(30572176,[0,1,2,7,8,10]),(15286089,[0,1,2,7,8,10])],[],false,0,[(11,[(2,17),(3,17),(4,17)]),(17,[(2,17),(3,17),(4,17)]),(23,[(2,17),(3,17),(4,17)])]⟩,⟨[(2,[0,1])],[],false,0,[]⟩,⟨[(2,[0,1,2,3]),(7680,[0,1,9,10]),(7682,[0,1,9,10]),(15392,[0,1,9,10]),(15394,[0,1,9,10]),(3852,[0,1,9,10]),(3854,[0,1,9,10])],[],false,0,[(1,[(2,15),(3,15)]),(8,[(2,15),(3,15)])]⟩,⟨[(2,[0,1,2,3]),(480,[0,1,10,11]),(482,[0,1,10,11]),(992,[0,1,10,11]),(994,[0,1,10,11]),(252,[0,1,10,11]),(1012,[0,1,11]),(254,[0,1,10,11]),(523776,[0,1,10,11]),(523778,[0,1,10,11]),(1047584,[0,1,10,11]),(1047586,[0,1,10,11]),(261900,[0,1,10,11]),(4094,[0,1,11]),(261902,[0,1,10,11])],[],false,0,[(1,[(2,15),(3,15)]),(8,[(2,15),(3,15)]),(10,[(2,15),(3,15)]),(18,[(2,15),(3,15)]),(21,[(2,15),(3,15)])]⟩,n_,⟨[(2,[0])],[],false,0,[]⟩,⟨[(2,[0])],[],false,2101256,[]⟩,n_,n_,⟨[(2,[0,1]),(104,[0,1,7,8]),(1688,[0,1,7,8]),(423,[0,1,7,8])],[],false,256,[]⟩]
def aJ5:List FT:=[⟨[(2,[0,1])],[],false,0,[]⟩,⟨[(2,[0,1]),(52,[0,3]),(54,[0,3]),(7144,[4,5,7,29,30,31]),(114328,[4,5,7,29,30,31]),(914636,[4,8]),(28583,[4,5,7,29,30,31])],[],false,2684355080,[]⟩,⟨[(2,[0])],[],false,0,[]⟩,⟨[(2,[0])],[],false,0,[]⟩,⟨[(2,[0,1]),(60,[0,7,8])],[],false,0,[]⟩,⟨[(2,[0,1]),(60,[4,6,7]),(62,[4,6,7])],[],false,16,[]⟩,⟨[(2,[0])],[],false,0,[]⟩,⟨[(2,[0])],[],false,0,[]⟩,⟨[(2,[0,1,2]),(30,[0,1,2])],[],false,0,[]⟩,⟨[(2,[0])],[],false,0,[]⟩,⟨[(2,[0,1]),(14,[0,3]),(246,[0,3,6,7]),(124,[0,3,6]),(126,[0,3])],[],false,200,[(4,[(9,13)])]⟩,⟨[(2,[0,1]),(14,[0])],[],false,0,[]⟩,⟨[(2,[0,1]),(14,[0])],[],false,0,[]⟩,⟨[(2,[0,1]),(14,[0,3]),(2024,[0,3,6,7,9]),(254,[0,3,6,7,9]),(1013,[0,3,6,7,9]),(1022,[0,3,6,7,9,10,11,12]),(8186,[0,3,6,7,9,10,12]),(4094,[0,3,6,7,9,10]),(65522,[0,6,7]),(131046,[0,3,6,7,10]),(262094,[0,3,6]),(262095,[0,3,6,7])],[],false,200,[(4,[(9,13)])]⟩,⟨[(1,[0,1])],[],false,0,[]⟩,⟨[(2,[0,1])],[],false,0,[]⟩]
def aJb:List FT:=[⟨[(2,[0,1,2]),(30,[0,1,2])],[],false,0,[]⟩,⟨[(2,[0,1]),(24,[0,8,9]),(408,[0,8,9]),(103,[0,8,9])],[],false,512,[]⟩,⟨[(2,[0,1]),(30,[4,6,7])],[],false,1048592,[]⟩,⟨[(2,[0,1,2,3]),(48,[0,2,3,8]),(396,[0,2,3,8,9]),(794,[0,2,3,8,9]),(796,[0,2,3,8,9]),(798,[0,2,3,8,9])],[],false,0,[(6,[(4,23),(5,23),(6,23),(7,23)])]⟩,⟨[(2,[0,1,2])],[],false,0,[]⟩,⟨[(2,[0,1,2,3,4])],[],false,0,[]⟩,n_,⟨[(2,[0,1])],[],false,0,[]⟩,⟨[(2,[0,1]),(14,[0,1]),(122,[0])],[],false,0,[]⟩,⟨[(2,[0,1,2,3]),(52,[1,2,3])],[],false,524288,[]⟩,⟨[(2,[0])],[],false,0,[]⟩,n_,n_,n_,n_,n_]
def aJ8:List FT:=[n_,n_,n_,n_,n_,n_,n_,n_,n_,n_,n_,n_,n_,n_,⟨[(2,[0,1,2]),(30,[1,3,8])],[],false,1032,[(7,[(0,13),(1,13)])]⟩,n_]
def TT:FuncId->FT:=aJe [tb0,tb1,tb2,tb3,tb4,tb5,tb6,tb7,tb8,tb9,aJ7,aK5,aK3,aKc,aJx,aJr,aJl,aK4,aJ5,aJb,aJ8]
abbrev Dd (f:FuncId) (i:Nat) (a:List Nat) (Q:Value->AH->Prop) (vs:List Value) (h:AH):Prop:=Go.Ab.D Pr K TT f i a Q vs h
theorem cW {f:FuncId} {args:List Value} {Q:Value->AH->Prop} {h:AH} (a:wC Pr K TT f args Q h):Cl Pr K f args h Q:=Go.Ab.cW a
theorem rW {f:FuncId} {num m l d:Nat} {lv:List Nat} {vs args:List Value} {e:Nat->Value} {st:LoopState} {pd:Option Code} {Q:Value->AH->Prop} {h:AH} (b:h.get l=some (lp Pr f (pM num) m e d st pd)) (a:List.map e lv=vs)
  (c:wR0 Pr K TT f num m lv vs l args Q h):Bc Pr K (.func (.yield l) #[] #[]) args h Q:=Go.Ab.rW b a c
end
end Go.Proofs.YtajjljbmfdboaaaGreatDoor
namespace Go.Hm
open Go Go.Ab
section
structure bM where
 aE:Int
 aS:Int
 aI:Int
 ways:Int
 depth:Int
 entries:Int
 aN:Int
 deriving DecidableEq
def bM.list (C:bM):List Int:=[C.aE,C.aS,C.aI,C.ways,C.depth,C.entries,C.aN]
def bM.enc (C:bM):List Value:=[I C.aE,I C.aS,I C.aI,I C.ways,I C.depth,I C.entries,I C.aN]
def aFl:List Int:=[4,16,8,4,16,8,4]
def fV:List Value:=[I 4,I 16,I 8,I 4,I 16,I 8,I 4]
def bM.px (C:bM):Nat->Nat->Int
 |0,_=>0
 |f+1,i=>if C.list.getD i 0<1\/aFl.getD i 0<C.list.getD i 0 then 10 else C.px f (i+1)
def bM.Ok (C:bM):Prop:=(1<=C.aE/\C.aE<=4)/\(1<=C.aS/\C.aS<=16)/\(1<=C.aI/\C.aI<=8)/\(1<=C.ways/\C.ways<=4)/\(1<=C.depth/\C.depth<=16)/\(1<=C.entries/\C.entries<=8)/\(1<=C.aN/\C.aN<=4)
instance (C:bM):Decidable C.Ok:=by unfold bM.Ok;infer_instance
theorem bM.aHj (C:bM):C.px 7 0=if C.Ok then 0 else 10:=by
 simp only[bM.px,bM.list,aFl,List.getD_cons_zero,List.getD_cons_succ];by_cases h:C.Ok;rw[aLb h];unfold bM.Ok at h;repeat rw[aLa (by omega)]
 .rw[aLa h];unfold bM.Ok at h;repeat' split
  all_goals first|rfl|(exfalso;omega)
def bM.lines (C:bM):Nat:=(C.aS*2).toNat
theorem bM.gK {C:bM} (h:C.Ok):(C.lines:Int)=C.aS*2/\2<=C.lines/\C.lines<=32:=by
 unfold bM.Ok at h;unfold bM.lines;omega
end
end Go.Hm
section
open Go Go.Ab
attribute [local irreducible] bE Br rT vO vB Dv nP xS mZ Ti iN nG pU sP rF lJ Cy xP Ya Xx Tj R3 Xc Td Rx Ub U1 mF pL vA kI copyV jQ zM Xp Yw Iz mA Pp Wr X7 pT tO Ao Cx Cl Bc Xb uL uF lI iQ cS cB
namespace Go.Proofs.YtajjljbmfdboaaaGreatDoor
open Go Go.Ab Go.Hm
section
set_option maxRecDepth 100000
variable {G:Bg} {h:AH} {L L':List HP}
theorem Zs {C:bM} {p:Nat} {Q:Value->AH->Prop} (g:Hs G h (aG p 0 C.enc::L)):∀(f i:Nat),i+f=7->Q (I (C.px f i)) h->Dd 89 1 [] Q [(pt p 0 0),(I 0),(.agg ⟨fV⟩),(I i)] h:=by
 intro f;induction f with
 |zero=>
  intro i j a;exact bW (aZ (aT (by omega) a))
 |succ f l=>
  intro i j a;have b:i<7:=by omega
  refine bW (aZ (bV (by omega) (bW ?_)));have e:C.enc[0+i*1]?=some (I (C.list.getD i 0)):=by
   have:i=0\/i=1\/i=2\/i=3\/i=4\/i=5\/i=6:=by omega
   rcases this with rfl|rfl|rfl|rfl|rfl|rfl|rfl<;>rfl
  have k:fV[i]?=some (I (aFl.getD i 0)):=by
   have:i=0\/i=1\/i=2\/i=3\/i=4\/i=5\/i=6:=by omega
   rcases this with rfl|rfl|rfl|rfl|rfl|rfl|rfl<;>rfl
  rw[bM.px] at a;refine bp b k (gR b (aC g e (aZ (aX (fun c=>?_) (fun c=>gR b (aC g e (mS (aX (fun d=>bW ?_) (fun d=>bW (bQ (by omega) (l (i+1) (by omega) ?_)))))))))));rw[aLb (.inl c)] at a;exact a;rw[aLb (.inr d)] at a;exact a;rw[aLa (by omega)] at a;exact a
theorem nF {C:bM} {Q:Value->AH->Prop} (e:Ob G 0 fV) (a:Hs G h L) (d:∀b,Hs G b L->Q (I (if C.Ok then 0 else 10)) b):Cl Pr K 89 [.agg ⟨C.enc⟩] h Q:=by
 refine cW ?_;refine dS a ?_;intro p h a;iterate 7 refine aA (aC a rfl ?_)
 refine aQ (c:=C.enc) rfl (bP a ?_);intro p h a;refine bH a rfl rfl rfl rfl ?_;intro h a;refine aDh a e rfl ?_;refine Zs (C:=C) a 7 0 rfl ?_;show Q _ _;rw[bM.aHj];exact d _ a.tail.tail
theorem rQ {C:bM} (hC:C.Ok) {Q:Value->AH->Prop} (e:Ob G 0 fV) (a:Hs G h L) (d:∀b,Hs G b L->Q (I C.lines) b):Cl Pr K 63 [.agg ⟨C.enc⟩] h Q:=by
 refine cW ?_;refine dS a ?_;intro p h a;refine aU a (by decide) (l:=C.enc) rfl rfl (nF e a fun h a=>?_);rw[aLb hC];have c:=bM.gK hC;refine bC (aT (by omega) ?_);refine aA (aC a rfl (vP (by unfold bM.Ok at hC;omega) ?_));show Q _ _;rw[show C.aS*2=(C.lines:Int) from c.1.symm];exact d _ a.tail
theorem ka {C:bM} (hC:C.Ok) {l:Int} {Q:Value->AH->Prop} (f:Ob G 0 fV) (a:Hs G h L) (b:∀c,Hs G c L->Q (if 0<=l/\l<C.lines then .tuple ⟨[I (l % C.aN),I 0]⟩ else .tuple ⟨[I 0,I 10]⟩) c):Cl Pr K 238 [.agg ⟨C.enc⟩,I l] h Q:=by
 refine cW ?_;refine dS a ?_;intro p h a;refine aZ (aX (fun d=>?_) (fun d=>?_));have:=b _ a.tail;rw[aLa (by omega)] at this;exact this;refine aU a (by decide) (l:=C.enc) rfl rfl (rQ hC f a fun h a=>?_);refine dO (aX (fun e=>?_) (fun e=>?_));have:=b _ a.tail;rw[aLa (by omega)] at this;exact this;have:=b _ a.tail;rw[aLb (by omega)] at this;refine aA (aC a rfl (Va (by omega) (by unfold bM.Ok at hC;omega) ?_));exact this
end
end Go.Proofs.YtajjljbmfdboaaaGreatDoor
end
namespace Go.Hm
open Go Go.Ab
section
abbrev Ln:=Int×Int
def Nu (l:Ln):List Value:=[I l.1,I l.2]
def iI (n B i:Nat):Nat:=(n+B - 1 - i)/B
theorem iq {B i:Nat} (a:i<B):iI 0 B i=0:=Nat.div_eq_of_lt (by omega)
theorem P0 {n B i:Nat} (d:i<B):iI (n+1) B i=if i=n % B then iI n B i+1 else iI n B i:=by
 have a:=Nat.div_add_mod n B;have c:=Nat.mod_lt n (show 0<B by omega);unfold iI;generalize n/B=q at a;generalize n % B=r at a c ⊢;subst a;split;rename_i h;subst h;rw[show B*q+i+1+B - 1 - i=B*q+B by omega,show B*q+i+B - 1 - i=B*q+(B - 1) by omega];rw[Nat.mul_add_div (by omega),Nat.mul_add_div (by omega),Nat.div_self (by omega),Nat.div_eq_of_lt (show B - 1<B by omega)];rename_i h;rcases Nat.lt_or_ge i r with b|b;rw[show B*q+r+1+B - 1 - i=B*q+(B+(r - i)) by omega,show B*q+r+B - 1 - i=B*q+(B+(r - i - 1)) by omega];rw[Nat.mul_add_div (by omega),Nat.mul_add_div (by omega),Nat.add_div_left _ (by omega),Nat.add_div_left _ (by omega),Nat.div_eq_of_lt (show r - i<B by omega),Nat.div_eq_of_lt (show r - i - 1<B by omega)];rw[show B*q+r+1+B - 1 - i=B*q+(B+r - i) by omega,show B*q+r+B - 1 - i=B*q+(B+r - i - 1) by omega];rw[Nat.mul_add_div (by omega),Nat.mul_add_div (by omega),Nat.div_eq_of_lt (show B+r - i<B by omega),Nat.div_eq_of_lt (show B+r - i - 1<B by omega)]
theorem Jo {n B l:Nat} (hB:0<B) (b:l<n):l/B<iI n B (l % B):=by
 unfold iI;have a:=Nat.div_add_mod l B;have c:=Nat.mod_lt l hB;rw[Nat.lt_div_iff_mul_lt hB];rw[Nat.mul_comm];generalize B*(l/B)=q at a ⊢;omega
theorem S7 {B l k i:Nat} (a:i<B):k*B+i=l↔k=l/B/\i=l % B:=by
 constructor;intro h;subst h;rw[Nat.mul_comm,Nat.mul_add_div (by omega),Nat.mul_add_mod,Nat.div_eq_of_lt a,Nat.mod_eq_of_lt a];simp;rintro ⟨rfl,rfl⟩;have:=Nat.div_add_mod l B;rw[Nat.mul_comm];exact this
theorem bM.bk {C:bM} (h:C.Ok):(C.aN.toNat:Int)=C.aN/\0<C.aN.toNat/\C.aN.toNat<=4:=by unfold bM.Ok at h;omega
def Nw (B i:Nat) (mem:Nat->Ln):Nat->List Value:=fun k=>Nu (mem (k*B+i))
theorem Sd {B i:Nat} {mem:Nat->Ln} (k:Nat):(Nw B i mem k).length=2:=rfl
theorem qB {α:Type} {f:Nat->α} {i:Nat}:aR f i (f i)=f:=by
 funext j;unfold aR;split;rename_i h;rw[h];rfl
theorem xv {B l:Nat} {mem:Nat->Ln} (hB:0<B):Nw B (l % B) mem (l/B)=Nu (mem l):=by
 unfold Nw;rw[(S7 (Nat.mod_lt l hB)).2 ⟨rfl,rfl⟩]
theorem Sm {B l:Nat} {mem:Nat->Ln} {v:Ln} (hB:0<B):aR (Nw B (l % B) mem) (l/B) (Nu v)=Nw B (l % B) (aR mem l v):=by
 funext k;unfold Nw aR;have:=(S7 (l:=l) (k:=k) (Nat.mod_lt l hB));by_cases h:k=l/B;rw[aLb h,aLb (this.2 ⟨h,rfl⟩)];rw[aLa h,aLa (fun e=>h (this.1 e).1)]
theorem tz {B l i:Nat} {mem:Nat->Ln} {v:Ln} (a:i<B) (h:i≠l % B):Nw B i (aR mem l v)=Nw B i mem:=by
 funext k;unfold Nw aR;rw[aLa (fun e=>h ((S7 a).1 e).2)]
theorem dk {n B i:Nat} (hB:0<B):iI n B i<=n:=by
 unfold iI;refine Nat.le_of_lt_succ (Nat.div_lt_of_lt_mul ?_);rw[Nat.mul_succ];have:n<=B*n:=Nat.le_mul_of_pos_left _ hB;omega
def nE:Nat->Ln:=fun _=>(0,0)
end
end Go.Hm
section
open Go Go.Ab
attribute [local irreducible] bE Br rT vO vB Dv nP xS mZ Ti iN nG pU sP rF lJ Cy xP Ya Xx Tj R3 Xc Td Rx Ub U1 mF pL vA kI copyV jQ zM Xp Yw Iz mA Pp Wr X7 pT tO Ao Cx Cl Bc Xb uL uF lI iQ cS cB
namespace Go.Proofs.YtajjljbmfdboaaaGreatDoor
open Go Go.Ab Go.Hm
section
set_option maxRecDepth 100000
variable {G:Bg} {h:AH} {L L':List HP}
structure BkA where
 r:Int
 w:Int
 a:Option Addr
 cap:Nat
def gB (n B b o i:Nat) (mem:Nat->Ln):HP:=vW fun x:BkA=>
 sp [aG b o [I x.r,I x.w,.slice x.a (iI n B i) x.cap],dI 2 155 x.a x.cap (iI n B i,(List.range (iI n B i)).flatMap (Nw B i mem))]
theorem B2 {n B b o i:Nat} {mem:Nat->Ln} (d:Hs G h (gB n B b o i mem::L)):∃r w a c,Hs G h (aG b o [I r,I w,.slice a (iI n B i) c]::dI 2 155 a c (iI n B i,(List.range (iI n B i)).flatMap (Nw B i mem))::L):=by
 obtain⟨⟨r,w,a,c⟩,d⟩:=d.Et;exact⟨r,w,a,c,d.unpack⟩
theorem qG {n B b o i:Nat} {mem:Nat->Ln} {r w:Int} {a:Option Addr} {cap:Nat} (c:Hs G h (aG b o [I r,I w,.slice a (iI n B i) cap]::dI 2 155 a cap (iI n B i,(List.range (iI n B i)).flatMap (Nw B i mem))::L)):Hs G h (gB n B b o i mem::L):=
 Hs.Af (A:=fun x:BkA=>sp [aG b o [I x.r,I x.w,.slice x.a (iI n B i) x.cap],dI 2 155 x.a x.cap (iI n B i,(List.range (iI n B i)).flatMap (Nw B i mem))]) ⟨r,w,a,cap⟩ (Hs.pack (A:=[_,_]) c)
structure MmA where
 b:Nat
 o:Nat
 cap:Nat
def fP (G:Bg) (n mb:Nat) (C:bM) (mem:Nat->Ln):HP:=vW fun x:MmA=>
 sp [aG mb 0 (C.enc++[.slice (some ⟨x.b,x.o,none⟩) C.aN.toNat x.cap]),hole G 3 297 (some ⟨x.b,x.o,none⟩) x.cap C.aN.toNat x.b x.o,dK C.aN.toNat fun i=>gB n C.aN.toNat x.b (x.o+i*3) i mem]
theorem wF {n mb:Nat} {C:bM} {mem:Nat->Ln} (c:Hs G h (fP G n mb C mem::L)):∃b o a,Hs G h (aG mb 0 (C.enc++[.slice (some ⟨b,o,none⟩) C.aN.toNat a])::hole G 3 297 (some ⟨b,o,none⟩) a C.aN.toNat b o::dK C.aN.toNat (fun i=>gB n C.aN.toNat b (o+i*3) i mem)::L):=by
 obtain⟨⟨b,o,a⟩,c⟩:=c.Et;exact⟨b,o,a,c.unpack⟩
theorem tC {n mb:Nat} {C:bM} {mem:Nat->Ln} {b o cap:Nat} (a:Hs G h (aG mb 0 (C.enc++[.slice (some ⟨b,o,none⟩) C.aN.toNat cap])::hole G 3 297 (some ⟨b,o,none⟩) cap C.aN.toNat b o::dK C.aN.toNat (fun i=>gB n C.aN.toNat b (o+i*3) i mem)::L)):Hs G h (fP G n mb C mem::L):=
 Hs.Af (A:=fun x:MmA=>sp [aG mb 0 (C.enc++[.slice (some ⟨x.b,x.o,none⟩) C.aN.toNat x.cap]),hole G 3 297 (some ⟨x.b,x.o,none⟩) x.cap C.aN.toNat x.b x.o,dK C.aN.toNat fun i=>gB n C.aN.toNat x.b (x.o+i*3) i mem]) ⟨b,o,cap⟩ (Hs.pack (A:=[_,_,_]) a)
theorem Ma {a L2 c:List HP} (n mb:Nat) (C:bM) (mem:Nat->Ln) (b o cap:Nat) (d:Hs G h L) [k:dX (aG mb 0 (C.enc++[.slice (some ⟨b,o,none⟩) C.aN.toNat cap])) L a] [e:dX (hole G 3 297 (some ⟨b,o,none⟩) cap C.aN.toNat b o) a L2] [f:dX (dK C.aN.toNat (fun i=>gB n C.aN.toNat b (o+i*3) i mem)) L2 c]:Hs G h (fP G n mb C mem::c):=
 tC (b:=b) (o:=o) (cap:=cap) (d.perm (k.perm.trans ((e.perm.trans (f.perm.cons _)).cons _)))
theorem vH {C:bM} (hC:C.Ok) {mb b o cap l:Nat} {Q:Value->AH->Prop} (i:Ob G 0 fV) (a:Hs G h L) [m:Has (aG mb 0) L (C.enc++[.slice (some ⟨b,o,none⟩) C.aN.toNat cap]) L'] (j:l<C.lines)
  (g:∀d,Hs G d L->Q (.tuple ⟨[pt b (o+(l % C.aN.toNat)*3) 0,I (l/C.aN.toNat:Nat),I 0]⟩) d):Cl Pr K 177 [pt mb 0 0,I l] h Q:=by
 have c:=bM.bk hC
 refine cW (dG (bZ (bW ?_)))
 refine aB (aA (aU a (by decide) (l:=C.enc) rfl rfl (ka hC i a fun h a=>?_)))
 rw[aLb (by omega)]
 refine aH rfl (aH rfl (bC (aT (by omega) ?_)))
 refine bB a ?_
 intro r h a
 refine aB (aA (aC a rfl ?_))
 have e:(l:Int) % C.aN=((l % C.aN.toNat:Nat):Int):=by rw[<-c.1];simp
 have f:(l:Int)/C.aN=((l/C.aN.toNat:Nat):Int):=by rw[<-c.1];simp
 rw[e]
 refine dV (Nat.mod_lt _ c.2.1) (aB (aA (aA (aC a rfl (Fv (by omega) (by omega) (by have:=(bM.gK hC).2;omega) ?_)))))
 show Q _ _
 rw[f]
 exact g _ a.tail
theorem dw {C:bM} (hC:C.Ok) {mb l:Nat} {mem:Nat->Ln} {Q:Value->AH->Prop} (y:Ob G 0 fV) (d:Hs G h L) [m:Has (fP G C.lines mb C) L mem L'] (u:l<C.lines)
  (x:∀t,Hs G t (fP G C.lines mb C mem::L')->Q (.tuple ⟨[.agg ⟨Nu (mem l)⟩,I 0]⟩) t):Cl Pr K 306 [pt mb 0 0,I l] h Q:=by
 have j:=bM.bk hC
 have d:=m.of d
 obtain⟨b,o,f,d⟩:=wF d
 refine cW (bP d ?_)
 intro p h d
 refine vH hC y d u fun h d=>?_
 refine aH rfl (aH rfl (aH rfl (bC (aT (by omega) (bW ?_)))))
 have d:=(d.front (dK C.aN.toNat fun i=>gB C.lines C.aN.toNat b (o+i*3) i mem)).mW (l % C.aN.toNat) (Nat.mod_lt _ j.2.1)
 obtain⟨r,w,a,q,d⟩:=B2 d
 refine aB (aA (aA (aC d rfl (aj (aB (aA (aA (bL d rfl rfl rfl rfl ?_))))))))
 intro h d
 refine aB (aA (aC d rfl ?_))
 have g:=Jo j.2.1 u
 obtain⟨k,v,rfl,H,d,e⟩:=Hs.ui (Sd (B:=C.aN.toNat) (i:=l % C.aN.toNat) (mem:=mem)) g (d.front (dI 2 155 a q (iI C.lines C.aN.toNat (l % C.aN.toNat),(List.range (iI C.lines C.aN.toNat (l % C.aN.toNat))).flatMap (Nw C.aN.toNat (l % C.aN.toNat) mem))))
 rw[xv j.2.1] at d
 refine dV g (aU d (by decide) (l:=Nu (mem l)) rfl rfl ?_)
 refine bH d rfl rfl rfl rfl ?_
 intro h d
 refine aU d (by decide) rfl rfl ?_
 refine x _ ?_
 have d:=e _ _ _ rfl rfl (d.cX (aG k (v+l/C.aN.toNat*2) (Nu (mem l))) H)
 rw[Sm j.2.1,qB] at d
 have d:=qG (d.sg (b:=b) (o:=o+l % C.aN.toNat*3) (c:=[I (wr (r+1)),I w,.slice (some ⟨k,v,none⟩) (iI C.lines C.aN.toNat (l % C.aN.toNat)) q]) rfl)
 exact tC (b:=b) (o:=o) (cap:=f) ((d.qA (n:=C.aN.toNat) (i:=l % C.aN.toNat) (fun i=>gB C.lines C.aN.toNat b (o+i*3) i mem) (fun i=>gB C.lines C.aN.toNat b (o+i*3) i mem) (Nat.mod_lt _ j.2.1) (fun _ _ _=>rfl)).to)
theorem Gq {C:bM} (hC:C.Ok) {mb l:Nat} {mem:Nat->Ln} {v:Ln} {Q:Value->AH->Prop} (D:Ob G 0 fV) (d:Hs G h L) [m:Has (fP G C.lines mb C) L mem L'] (y:l<C.lines)
  (A:∀x,Hs G x (fP G C.lines mb C (aR mem l v)::L')->Q (I 0) x):Cl Pr K 217 [pt mb 0 0,I l,.agg ⟨Nu v⟩] h Q:=by
 have j:=bM.bk hC
 have d:=m.of d
 obtain⟨b,o,f,d⟩:=wF d
 refine cW (dS d ?_)
 intro p h d
 refine vH hC D d y fun h d=>?_
 refine aH rfl (aH rfl (aH rfl (bC (aT (by omega) (bW ?_)))))
 have d:=(d.front (dK C.aN.toNat fun i=>gB C.lines C.aN.toNat b (o+i*3) i mem)).mW (l % C.aN.toNat) (Nat.mod_lt _ j.2.1)
 obtain⟨r,w,a,u,d⟩:=B2 d
 refine aB (aA (aA (aC d rfl (aj (aB (aA (aA (bL d rfl rfl rfl rfl ?_))))))))
 intro h d
 refine bB d ?_
 intro E h d
 refine aB (aA (aC d rfl (aU d (by decide) rfl rfl ?_)))
 have g:=Jo j.2.1 y
 obtain⟨k,t,rfl,H,d,e⟩:=Hs.ui (Sd (B:=C.aN.toNat) (i:=l % C.aN.toNat) (mem:=mem)) g (d.front (dI 2 155 a u (iI C.lines C.aN.toNat (l % C.aN.toNat),(List.range (iI C.lines C.aN.toNat (l % C.aN.toNat))).flatMap (Nw C.aN.toNat (l % C.aN.toNat) mem))))
 refine dV g (bH d rfl rfl rfl rfl ?_)
 intro h d
 refine A _ ?_
 have d:=e _ _ _ rfl rfl ((d.sg (b:=k) (o:=t+l/C.aN.toNat*2) (c:=Nu v) rfl).cX (aG k (t+l/C.aN.toNat*2) (Nu v)) H)
 rw[Sm j.2.1] at d
 have d:=qG (d.sg (b:=b) (o:=o+l % C.aN.toNat*3) (c:=[I r,I (wr (w+1)),.slice (some ⟨k,t,none⟩) (iI C.lines C.aN.toNat (l % C.aN.toNat)) u]) rfl)
 exact tC (b:=b) (o:=o) (cap:=f) ((d.qA (n:=C.aN.toNat) (i:=l % C.aN.toNat) (fun i=>gB C.lines C.aN.toNat b (o+i*3) i mem) (fun i=>gB C.lines C.aN.toNat b (o+i*3) i (aR mem l v)) (Nat.mod_lt _ j.2.1) (fun i z q=>by simp only[gB,tz z q])).to)
theorem Vx {C:bM} (hC:C.Ok) {p mb:Nat} {Q:Value->AH->Prop} (A:∀t,Hs G t (fP G C.lines mb C nE::L)->Q (.tuple ⟨[pt mb 0 0,I 0]⟩) t):∀(f n:Nat) (h:AH) (g:HP),n+f=C.lines->Hs G h (fP G n mb C nE::aG p 0 C.enc::g::L)->
  Dd 93 2 [] Q [(pt p 0 0),(pt mb 0 0),(I C.lines),(I n)] h:=by
 have l:=bM.bk hC
 have D:=bM.gK hC
 intro f
 induction f with
 |zero=>
  intro n h g E d
  have:n=C.lines:=by omega
  subst this
  exact bW (aZ (aT (by omega) (A _ d.to)))
 |succ f F=>
  intro n h g E d
  refine bW (aZ (bV (by omega) (bW ?_)))
  refine bB d ?_
  intro H h d
  obtain⟨b,o,e,d⟩:=wF (d.front (fP G n mb C nE))
  refine aB (aA (aC d rfl (aA (aC d rfl ?_))))
  have v:(n:Int) % C.aN=((n % C.aN.toNat:Nat):Int):=by rw[<-l.1];simp
  refine Va (by omega) (by omega) ?_
  rw[v]
  have k:=Nat.mod_lt n l.2.1
  refine dV k ?_
  have d:=(d.front (dK C.aN.toNat fun i=>gB n C.aN.toNat b (o+i*3) i nE)).mW (n % C.aN.toNat) k
  obtain⟨r,w,a,J,d⟩:=B2 d
  refine aB (aA (aC d rfl (aQ (c:=Nu (0,0)) rfl (aQ (c:=Nu (0,0)) rfl ?_))))
  refine dW d rfl rfl rfl ?_
  intro a3 h d
  have y:=dk (n:=n) (B:=C.aN.toNat) (i:=n % C.aN.toNat) l.2.1
  refine sI d (by omega) ?_
  intro a4 u h d
  dsimp only
  refine aB (aA (bL d rfl rfl rfl rfl ?_))
  intro h d
  refine bQ (by omega) ?_
  refine F (n+1) h (sp [dI 2 155 (some a3) 1 (1,Nu (0,0)),fp H (10,[]),g]) (by omega) ?_
  have q:iI (n+1) C.aN.toNat (n % C.aN.toNat)=iI n C.aN.toNat (n % C.aN.toNat)+1:=by rw[P0 k,aLb rfl]
  have x:(List.range (iI n C.aN.toNat (n % C.aN.toNat))).flatMap (Nw C.aN.toNat (n % C.aN.toNat) nE)++Nu (0,0)=(List.range (iI (n+1) C.aN.toNat (n % C.aN.toNat))).flatMap (Nw C.aN.toNat (n % C.aN.toNat) nE):=by
   rw[q,List.range_succ,List.flatMap_append];rfl
  rw[x,<-q] at d
  have d:=qG (n:=n+1) (r:=r) (w:=w) (a:=a4) (cap:=u) (b:=b) (o:=o+n % C.aN.toNat*3) d
  exact(Ma (n+1) mb C nE b o e (d.qA (n:=C.aN.toNat) (i:=n % C.aN.toNat) (fun i=>gB n C.aN.toNat b (o+i*3) i nE) (fun i=>gB (n+1) C.aN.toNat b (o+i*3) i nE) k (fun j z m=>by simp only[gB,P0 z,aLa m]))).to
theorem Qg {C:bM} (hC:C.Ok) {Q:Value->AH->Prop} (j:Ob G 0 fV) (d:Hs G h L) (t:∀e f,Hs G f (fP G C.lines e C nE::L)->Q (.tuple ⟨[pt e 0 0,I 0]⟩) f):Cl Pr K 93 [.agg ⟨C.enc⟩] h Q:=by
 have m:=bM.bk hC;refine cW (dS d ?_);intro p h d;refine aU d (by decide) (l:=C.enc) rfl rfl (nF j d fun h d=>?_);rw[aLb hC];refine bC (aT (by omega) (bW (bB d ?_)));intro u h d;refine aU d (by decide) (l:=C.enc) rfl rfl (aA (aC d rfl (Ri (by omega) (by omega) (by omega) ?_)));dsimp only;refine jZ d rfl rfl ?_ rfl ?_ ?_;rw[gT,rL (W:=3) (fun _=>rfl)];rw[gT];exact qR (fun _=>rfl) _;intro a h d;obtain⟨b,o,k,d⟩:=Hs.Ku (W:=3) rfl m.2.1 d;cases k;refine aQ (c:=C.enc++[.slice (some ⟨b,o,none⟩) C.aN.toNat C.aN.toNat]) rfl ?_;refine Am d rfl rfl ?_;intro e h d;refine aU d (by decide) (l:=C.enc) rfl rfl (rQ hC j d fun h d=>?_);have d:=(Hs.Lf (g:=fun i=>gB 0 C.aN.toNat b (o+i*3) i nE) C.aN.toNat _ (fun i q h L d=>?_) (d.front (dK C.aN.toNat fun i=>aG b (o+i*3) [I 0,I 0,.slice none 0 0])));have d:=Ma 0 e C nE b o C.aN.toNat d;exact Vx hC (t e) C.lines 0 h _ (by omega) (d.to (M:=[fP G 0 e C nE,aG p 0 C.enc,sp []]++L));refine qG (r:=0) (w:=0) (a:=none) (cap:=0) ?_;rw[iq q];exact(gS d).mK
end
end Go.Proofs.YtajjljbmfdboaaaGreatDoor
end
section
namespace Go.Ab
abbrev tx (l:List UInt8):Value:= .string ⟨l.toArray⟩
variable {G:Bg} {h:AH} {L L':List HP}
end Go.Ab
end
namespace Go.Is
open Go Go.Ab
section
def opsL:List (List UInt8×List Int):=[([],[0,0,0]),([115,101,116],[1,2,0]),([97,100,100],[1,1,1]),([108,111,97,100],[1,1,0]),([115,116,111,114,101],[1,1,0]),([115,119,97,112],[1,1,0]),([102,101,110,99,101],[0,0,0]),
  ([119,111,114,108,100],[3,0,0]),([99,97,108,108],[4,1,1]),([106,117,109,112],[5,0,0]),([122,101,114,111],[1,5,0]),([104,97,108,116],[0,0,0])]
def wR:List Value:=opsL.flatMap fun r=>tx r.1::r.2.map I
structure Ins where
 op:Int
 a:Int
 b:Int
 c:Int
 deriving DecidableEq
def Ins.enc (x:Ins):List Value:=[I x.op,I x.a,I x.b,I x.c]
def C5 (o:Nat):List Int:=(opsL.getD o ([],[])).2
def isO (x:Int):Bool:=decide (1<=x/\x<12)
def A6 (nY v many:Int):Bool:=
 if nY=1 then decide (0<=v/\v<4) else if nY=2 then true else if nY=3 then decide (1<=v/\v<=3) else if nY=4 then decide (1<=v/\v<=4) else if nY=5 then decide (0<=v/\v<=many) else decide (v=0)
def Ins.N6 (x:Ins):List Int:=[x.a,x.b,x.c]
def Ins.Fo (x:Ins):List (Int×Int):=(C5 x.op.toNat).zip x.N6
def mL (x:Ins) (many:Int):Int:=if isO x.op then(if(x.Fo.all fun p=>A6 p.1 p.2 many) then 0 else 10) else 15
def px (many:Int):List Ins->Nat->Int×Int
 |[],_=>(0,0)
 |x::l,i=>if mL x many≠0 then((i:Int)+1,mL x many) else px many l (i+1)
def lF (p:List Ins):Int×Int:=if 32<p.length then(0,11) else px p.length p 0
theorem o12 {k:Nat} (h:k<12):k=0\/k=1\/k=2\/k=3\/k=4\/k=5\/k=6\/k=7\/k=8\/k=9\/k=10\/k=11:=by omega
theorem xu {k i:Nat} (h:k<12) (b:i<3):wR[k*4+(1+i*1)]?=some (I ((C5 k).getD i 0)):=by
 have a:i=0\/i=1\/i=2:=by omega
 rcases o12 h with rfl|rfl|rfl|rfl|rfl|rfl|rfl|rfl|rfl|rfl|rfl|rfl<;>rcases a with rfl|rfl|rfl<;>rfl
theorem Un {k:Nat} (h:k<12):(C5 k).length=3:=by
 rcases o12 h with rfl|rfl|rfl|rfl|rfl|rfl|rfl|rfl|rfl|rfl|rfl|rfl<;>rfl
theorem Qc {x:Ins} (h:isO x.op=true):x.Fo.length=3:=by
 have:=of_decide_eq_true h;unfold Ins.Fo;rw[List.length_zip,Un (by omega)];rfl
theorem Gg {x:Ins} (h:isO x.op=true) {i:Nat} (b:i<3):x.Fo[i]?=some ((C5 x.op.toNat).getD i 0,x.N6.getD i 0):=by
 have:=of_decide_eq_true h;have a:=Un (k:=x.op.toNat) (by omega);unfold Ins.Fo;rw[List.getElem?_zip_eq_some];refine⟨?_,?_⟩;show(C5 x.op.toNat)[i]?=some ((C5 x.op.toNat).getD i 0);rw[List.getD_eq_getElem?_getD,List.getElem?_eq_getElem (by omega)];rfl;show x.N6[i]?=some (x.N6.getD i 0);rw[List.getD_eq_getElem?_getD,List.getElem?_eq_getElem (by simp[Ins.N6];omega)];rfl
theorem Xh {many:Int}:∀(l:List Ins) (i:Nat),(px many l i).2=0->∀x∈l,mL x many=0
 |[],_,_,x,a=>by simp at a
 |y::l,i,h,x,a=>by
  rw[px] at h;split at h;rename_i b;exact absurd h b;rename_i b;rcases List.mem_cons.1 a with rfl|a;omega;exact Xh l (i+1) h x a
theorem nF {p:List Ins} (h:(lF p).2=0):p.length<=32/\∀x∈p,mL x p.length=0:=by
 unfold lF at h;split at h;cases h;exact⟨by omega,Xh p 0 h⟩
end
end Go.Is
namespace Go.Proofs.YtajjljbmfdboaaaGreatDoor
open Go Go.Ab Go.Is
section
theorem aEh {g n a i:Nat} {x:Int} {k:Value->Prop} (d:x=(i:Int)) (e:i<n) (c:k (pt g (i*a) 0)):bE (pL n a (.pointer (some ⟨g,0,none⟩)) (I x)) k:=by
 subst d;exact fU (b:=g) (o:=0) (j:=0) (by omega) (by omega) (by simpa [pt] using c)
theorem oD {α:Type} {l:List α} {i:Nat} (h:i<l.length):∃x,l[i]?=some x/\l.drop i=x::l.drop (i+1):=⟨l[i],by simp,List.drop_eq_getElem_cons h⟩
set_option maxRecDepth 100000
attribute [local irreducible] bE Br rT vO vB Dv nP xS mZ Ti iN nG pU sP rF lJ Cy xP Ya Xx Tj R3 Xc Td Rx Ub U1 mF pL vA kI copyV jQ zM Xp Yw Iz mA Pp Wr X7 pT tO Ao Cx Cl Bc Xb uL uF lI iQ cS cB
variable {G:Bg} {h:AH} {L L' M:List HP} {Q:Value->AH->Prop}
theorem po {x:Int} (a:Q (.bool (isO x)) h):Cl Pr K 184 [I x] h Q:=by
 refine cW (dO (aX (fun b=>aZ ?_) (fun b=>?_)));show Q _ _;rw[show decide (x<12)=isO x from decide_eq_decide.2 (by omega)];exact a;show Q _ _;rw[show false=isO x from(decide_eq_false (by omega)).symm];exact a
theorem Vu {nY v many:Int} (a:Q (.bool (A6 nY v many)) h):Cl Pr K 186 [I nY,I v,I many] h Q:=by
 unfold A6 at a;refine cW (bJ (aX (fun c=>?_) (fun d=>bW (bJ (aX (fun c=>?_) (fun e=>bW (bJ (aX (fun c=>?_) (fun f=>bW (bJ (aX (fun c=>?_) (fun g=>bW (bJ (aX (fun c=>?_) (fun n5=>bJ ?_)))))))))))))));rw[aLb c] at a;refine dO (aX (fun b=>aZ ?_) (fun b=>?_));show Q _ _;rw[show decide (v<4)=decide (0<=v/\v<4) from decide_eq_decide.2 (by omega)];exact a;rw[decide_eq_false (by omega)] at a;exact a;rw[aLa d,aLb c] at a;exact a;rw[aLa d,aLa e,aLb c] at a;refine dO (aX (fun b=>Bp ?_) (fun b=>?_));show Q _ _;rw[show decide (v<=3)=decide (1<=v/\v<=3) from decide_eq_decide.2 (by omega)];exact a;rw[decide_eq_false (by omega)] at a;exact a;rw[aLa d,aLa e,aLa f,aLb c] at a;refine dO (aX (fun b=>Bp ?_) (fun b=>?_));show Q _ _;rw[show decide (v<=4)=decide (1<=v/\v<=4) from decide_eq_decide.2 (by omega)];exact a;rw[decide_eq_false (by omega)] at a;exact a;rw[aLa d,aLa e,aLa f,aLa g,aLb c] at a;refine dO (aX (fun b=>Bp ?_) (fun b=>?_));show Q _ _;rw[show decide (v<=many)=decide (0<=v/\v<=many) from decide_eq_decide.2 (by omega)];exact a;rw[decide_eq_false (by omega)] at a;exact a;rw[aLa d,aLa e,aLa f,aLa g,aLa n5] at a;exact a
def prE (p:Int×Int):List Value:=[I p.1,I p.2]
theorem Le {x:Ins} (a:Hs G h L) (c:∀p b,Hs G b (aG p 0 x.enc::L)->Q (.func (.func 239) #[] #[pt p 0 0]) b):Cl Pr K 185 [.agg ⟨x.enc⟩] h Q:=by
 exact cW (dS a fun p h a=>c _ _ a)
theorem N7 {x:Ins} {p:Nat} (d:isO x.op=true) (w:Ob G 1 wR):xi Pr K G 239 [] [pt p 0 0] (aG p 0 x.enc) (x.Fo.map prE):=by
 intro j J y L h Q a B r t;have A:=of_decide_eq_true d;refine cW ?_;refine aA (aC a rfl (aA (aC a rfl (aA (aC a rfl (aQ (c:=x.N6.map I) rfl ?_))))));have loop:∀(f i:Nat) (h:AH),i+f=3->Hs G h (aG p 0 x.enc::j ((x.Fo.drop i).map prE)::L)->Dd 239 1 [] Q [y,(pt p 0 0),(.agg ⟨x.N6.map I⟩),(I i)] h:=by
  intro f;induction f with
  |zero=>
   intro i h z a;rw[List.drop_of_length_le (by rw[Qc d];omega)] at a;exact bW (aZ (aT (by omega) (r _ _ a)))
  |succ f D=>
   intro i h z a;obtain⟨q,e,u⟩:=oD (l:=x.Fo) (i:=i) (by rw[Qc d];omega);rw[Gg d (by omega)] at e;simp only[Option.some.injEq] at e;rw[u] at a;have k:i=0\/i=1\/i=2:=by omega
   have m:(x.N6.map I)[i]?=some (I q.2):=by
    rw[<-e];rcases k with rfl|rfl|rfl<;>rfl
   refine bW (aZ (bV (by omega) (bW (bp (by omega) m (aA (aC a rfl (aEh (i:=x.op.toNat) (by omega) (by omega) (aA (gR (by omega) ?_)))))))));refine Bk a w (xu (by omega) (by omega)) ?_;have g:(C5 x.op.toNat).getD i 0=q.1:=by rw[<-e]
   rw[g];refine(B _ _ h _ a.mK).mono fun v o g=>?_;rcases g with⟨rfl,b⟩|⟨rfl,b⟩;exact cE (bZ (bW (bQ (by omega) (D (i+1) o (by omega) b.mK))));exact cE (fK (t _ _ b.mK))
 exact loop 3 0 h rfl a
abbrev myX (p1 p5:Nat) (many v:Int) (e:Nat->Value) (d l:Nat) (z:LoopState×Option Code) (c:Prop):HP:=sp [Cz c,pP Pr 148 (pM 442) 22 e d l z,aG p5 0 [I many],aG p1 0 [I v]]
theorem Zv {x:Ins} {many:Int} (u:Ob G 1 wR) (a:Hs G h L) (f:∀q,Hs G q L->Q (I (mL x many)) q):Cl Pr K 148 [.agg ⟨x.enc⟩,I many] h Q:=by
 refine cW (dS a fun w h a=>dS a fun g h a=>aA (aC a rfl (po (cE (eO (dH (fun j=>?_) (fun j=>?_)))))));rotate_left;have:=f h a.tail.tail;unfold mL at this;rw[aLa (by rw[j];decide)] at this;exact lZ this;unfold mL at f;rw[aLb j] at f;refine bW (bP a fun p1 h a=>bH a rfl rfl rfl rfl fun h a=>aU a (by decide) (l:=x.enc) rfl rfl (Le a fun p h a=>oY a fun d h a=>?_));intro e t;refine tZ a fun l h a=>A8 rfl ?_;have a:Hs G h (aG p 0 x.enc::myX p1 g many 0 e d l (.ready,none) ((([]:List (Int×Int)).all fun p=>A6 p.1 p.2 many)=true)::mk d ()::L):=by
  refine Hs.mK (zL rfl (Hs.W8 ?_));have a:=a.dF (pP Pr 148 (pM 442) 22 e d l (.ready,none)) (aG g 0 [I many]) (aG p1 0 [I 0]);exact a.to
 refine(N7 (p:=p) j u).fold (X:=fun done=>myX p1 g many 0 e d l (.ready,none) ((done.all fun p=>A6 p.1 p.2 many)=true)) (Z:=fun _ y=>myX p1 g many 10 e d l (.done,some (.exit 0)) (A6 y.1 y.2 many=false)) a ?_ ?_ ?_
 .intro done y h M r a;obtain⟨i,c⟩:=iG a;clear a;have a:=c.Ex;refine rW (A7 a) t (lU a fun h a=>aC (b:=g) (o:=0) a rfl (Vu (cE (eO (dH (fun k=>?_) (fun k=>?_))))));refine mB a fun h a=> .inl ⟨rfl,zL ?_ (Hs.W8 a.to)⟩;rw[List.all_append,i];simp[k];refine bH (b:=p1) (o:=0) a rfl rfl rfl rfl fun h a=>mB a fun h a=> .inr ⟨rfl,zL k (Hs.W8 ?_)⟩;exact a.to
 intro v h a;have a:=a.front (myX p1 g many 0 e d l (.ready,none) ((x.Fo.all fun p=>A6 p.1 p.2 many)=true));obtain⟨i,c⟩:=iG a;clear a;have a:=c.Ex;rw[aLb i] at f;exact uG a fun h a=>uE (aC (b:=p1) (o:=0) a rfl (oU a fun h a=>lZ (f _ a.to)))
 .intro done y v h r a;have a:=a.front (myX p1 g many 10 e d l (.done,some (.exit 0)) (A6 y.1 y.2 many=false));obtain⟨i,c⟩:=iG a;clear a;have a:=c.Ex;rw[aLa ?_] at f;exact Ml a fun h a=>Sr rfl (aC (b:=p1) (o:=0) a rfl (oU a fun h a=>lZ (f _ a.to)));obtain⟨z,m⟩:=r;rw[<-m];simp[i]
theorem Kp {t:Value} {p:List Ins} {_v0 v1:Value} {e:TypeId} (k:v1=I p.length) (v:p.length<=32) (o:Ob G 1 wR) (d:∀g,Hs G g (zX G 4 e t (p.map Ins.enc)::L)->Q (.tuple ⟨[I (lF p).1,I (lF p).2]⟩) g):
  ∀(f i:Nat) (h:AH),i+f=p.length->lF p=px p.length (p.drop i) i->Hs G h (zX G 4 e t (p.map Ins.enc)::L)->Dd 91 2 [] Q [t,t,v1,(I i)] h:=by
 subst k
 intro f
 induction f with
 |zero=>
  intro i h q b a
  rw[List.drop_of_length_le (by omega)] at b
  rw[b] at d
  exact bW (aZ (aT (by omega) (d _ a)))
 |succ f u=>
  intro i h q b a
  obtain⟨x,r,m⟩:=oD (l:=p) (i:=i) (by omega)
  rw[m,px] at b
  obtain⟨y,z,j⟩:=vY a
  refine bW (aZ (bV (by omega) (bW (aD7 a (by decide) (i:=i) (x:=x.enc) (by simp[r]) (bP a fun w h a=>?_)))))
  refine bH a rfl rfl rfl rfl fun h a=>aU a (by decide) (l:=x.enc) rfl rfl ?_
  rw[j]
  refine cC ?_
  rw[<-j,List.length_map]
  refine Zv o a fun h a=>bC (aX (fun c=>?_) (fun c=>?_))
  .rw[aLb c] at b;rw[b] at d;exact bQ (by omega) (d _ a.tail)
  .rw[aLa c] at b;exact bW (bQ (by omega) (u (i+1) h (by omega) b a.tail))
theorem E8 {t:Value} {p:List Ins} {e:TypeId} (f:Ob G 1 wR) (b:Hs G h (zX G 4 e t (p.map Ins.enc)::L)) (a:∀d,Hs G d (zX G 4 e t (p.map Ins.enc)::L)->Q (.tuple ⟨[I (lF p).1,I (lF p).2]⟩) d):
  Cl Pr K 91 [t] h Q:=by
 obtain⟨i,j,g⟩:=vY b
 have len:∀{k:Value->Prop},k (I p.length)->bE (lJ t) k:=fun a=>by
  rw[g];refine cC ?_;rw[List.length_map];exact a
 refine cW (len (mS (aX (fun c=>?_) (fun c=>?_))))
 .have:=a h b;unfold lF at this;rw[aLb (by omega)] at this;exact this
 .refine bW (len (Kp (_v0:=t) rfl (by omega) f a p.length 0 h (by omega) ?_ b));unfold lF;rw[aLa (by omega)];rfl
end
end Go.Proofs.YtajjljbmfdboaaaGreatDoor
namespace Go.At
open Go Go.Ab Go.Hm Go.Is
section
structure Ev where
 core:Int
 at':Int
 op:Int
 world:Int
 word:Int
 value:Int
 code:Int
 deriving DecidableEq
def Ev.enc (x:Ev):List Value:=[I x.core,I x.at',I x.op,I x.world,I x.word,I x.value,I x.code]
def Hc:Ev:=⟨0,0,0,0,0,0,0⟩
structure aK where
 cJ:Nat->Int
 at':Int
 world:Int
 over:Bool
 prog:List Ins
def aK.core (s:aK):List Value:=[I (s.cJ 0),I (s.cJ 1),I (s.cJ 2),I (s.cJ 3),I s.at',I s.world,.bool s.over]
def pW (p:List Ins) (a:Int):Ins:=p.getD a.toNat ⟨0,0,0,0⟩
def De (p:List Ins) (a:Int):Bool:=if(p.length:Int)<=a then true else decide ((pW p a).op=11)
def aK.iO (s:aK) (a:Int):aK:={s with at':=a,over:=De s.prog a}
def aK.cK (s:aK) (i v:Int):aK:={s with cJ:=aR s.cJ i.toNat v}
def aK.Y3 (s:aK) (v:Int):aK:={s with world:=v}
def lQ (mem:Nat->Ln) (w:Nat):Int:=if w % 2=0 then(mem (w/2)).1 else(mem (w/2)).2
def pS (mem:Nat->Ln) (w:Nat) (v:Int):Nat->Ln:=aR mem (w/2) (if w % 2=0 then(v,(mem (w/2)).2) else((mem (w/2)).1,v))
def jO (mem:Nat->Ln) (g:Nat):Nat->Ln:=aR (aR mem (g*2) (0,0)) (g*2+1) (0,0)
structure AM where
 cfg:bM
 aD:Nat->aK
 dA:List Int
 mem:Nat->Ln
def AM.nT (m:AM) (i:Nat) (s:aK):AM:={m with aD:=aR m.aD i s}
def AM.kD (m:AM) (mem:Nat->Ln):AM:={m with mem:=mem}
def AM.E5 (m:AM) (o:List Int):AM:={m with dA:=o}
def zW (world owner:Int):Bool:=if 0<=world/\world<=3/\0<=owner/\owner<=4 then decide (world=0\/owner=world\/owner=4) else false
def AM.may (m:AM) (world word:Int):Bool:=if 0<=word/\word<m.cfg.lines*2 then zW world (m.dA.getD (word.toNat/4) 0) else false
def AM.access (m:AM) (i:Nat) (x:Ins):AM×Int×Int:=
 if m.may (m.aD i).world ((m.aD i).cJ x.b.toNat) then
  if x.op=3 then(m.nT i ((m.aD i).cK x.a (lQ m.mem ((m.aD i).cJ x.b.toNat).toNat)),lQ m.mem ((m.aD i).cJ x.b.toNat).toNat,0)
  else if x.op=4 then(m.kD (pS m.mem ((m.aD i).cJ x.b.toNat).toNat ((m.aD i).cJ x.a.toNat)),(m.aD i).cJ x.a.toNat,0)
  else((m.kD (pS m.mem ((m.aD i).cJ x.b.toNat).toNat ((m.aD i).cJ x.a.toNat))).nT i ((m.aD i).cK x.a (lQ m.mem ((m.aD i).cJ x.b.toNat).toNat)),lQ m.mem ((m.aD i).cJ x.b.toNat).toNat,0)
 else(m,0,19)
def fN (call world owner to:Int):Int×Bool×Int:=
 if ¬((0<=world/\world<=3)/\(0<=owner/\owner<=4)) then(0,false,10)
 else if call=1 then(if world≠0 then(0,false,18) else if owner≠0 then(0,false,16) else if ¬(1<=to/\to<=3) then(0,false,1) else(to,true,0))
 else if call=2 then(if owner=0 then(0,false,16) else if world≠0/\world≠owner then(0,false,18) else(0,true,0))
 else if call=3 then(if world=0\/world≠owner then(0,false,18) else if ¬(1<=to/\to<=3)\/to=owner then(0,false,1) else(to,true,0))
 else if call=4 then(if owner=4 then(0,false,16) else if world≠owner then(0,false,18) else(4,false,0))
 else(0,false,15)
def AM.call (m:AM) (call world a to:Int) (busy:Bool):AM×Int:=
 if ¬(0<=a/\a<m.dA.length) then(m,10)
 else if busy then(m,17)
 else if(fN call world (m.dA.getD a.toNat 0) to).2.2≠0 then(m,(fN call world (m.dA.getD a.toNat 0) to).2.2)
 else((m.E5 (m.dA.set a.toNat (fN call world (m.dA.getD a.toNat 0) to).1)).kD (if(fN call world (m.dA.getD a.toNat 0) to).2.1 then jO m.mem a.toNat else m.mem),0)
def AM.iO (m:AM) (i:Nat) (a:Int):AM:=m.nT i ((m.aD i).iO a)
def AM.pO (m:AM) (i:Nat) (x:Ins) (busy:Bool):AM×Int×Int×Int×Int:=
 if x.op=1 then(m.nT i ((m.aD i).cK x.a x.b),0,x.b,0,(m.aD i).at'+1)
 else if x.op=2 then(m.nT i ((m.aD i).cK x.a (wr ((m.aD i).cJ x.b.toNat+(m.aD i).cJ x.c.toNat))),0,wr ((m.aD i).cJ x.b.toNat+(m.aD i).cJ x.c.toNat),0,(m.aD i).at'+1)
 else if x.op=3\/x.op=4\/x.op=5 then((m.access i x).1,(m.aD i).cJ x.b.toNat,(m.access i x).2.1,(m.access i x).2.2,(m.aD i).at'+1)
 else if x.op=7 then(if(m.aD i).world=0 then(m.nT i ((m.aD i).Y3 x.a),0,x.a,0,(m.aD i).at'+1) else(m,0,x.a,18,(m.aD i).at'+1))
 else if x.op=8 then((m.call x.a (m.aD i).world ((m.aD i).cJ x.b.toNat) ((m.aD i).cJ x.c.toNat) busy).1.nT i ((m.aD i).cK x.b (m.call x.a (m.aD i).world ((m.aD i).cJ x.b.toNat) ((m.aD i).cJ x.c.toNat) busy).2),(m.aD i).cJ x.b.toNat,(m.aD i).cJ x.c.toNat,(m.call x.a (m.aD i).world ((m.aD i).cJ x.b.toNat) ((m.aD i).cJ x.c.toNat) busy).2,(m.aD i).at'+1)
 else if x.op=9 then(m,0,x.a,0,x.a)
 else if x.op=10 then(m,0,(m.aD i).cJ x.a.toNat,0,if(m.aD i).cJ x.a.toNat=0 then x.b else(m.aD i).at'+1)
 else(m,0,0,0,(m.aD i).at'+1)
def AM.step (m:AM) (core:Int) (busy:Bool):AM×Ev×Int:=
 if ¬(0<=core/\core<m.cfg.aE) then(m,Hc,10)
 else if(m.aD core.toNat).over then(m,Hc,20)
 else
  let s:=m.aD core.toNat
  let x:=pW s.prog s.at'
  let r:=m.pO core.toNat x busy
  (r.1.iO core.toNat r.2.2.2.2,⟨core,s.at',x.op,s.world,r.2.1,r.2.2.1,r.2.2.2.1⟩,0)
def aK.Ok (s:aK):Prop:=0<=s.at'/\s.at'<=32/\s.over=De s.prog s.at'/\s.prog.length<=32/\∀x∈s.prog,mL x s.prog.length=0
structure AM.Ok (m:AM):Prop where
 cfg:m.cfg.Ok
 aD:∀i:Nat,(i:Int)<m.cfg.aE->(m.aD i).Ok
 dA:(m.dA.length:Int)=m.cfg.aS
def uC:List (List Ins)->Int
 |[]=>0
 |p::l=>if(lF p).2≠0 then(lF p).2 else uC l
def within (a b:Int) (l:List Int):Bool:=l.all fun x=>decide (a<=x/\x<=b)
def Cw (C:bM) (ps:List (List Ins)) (ws os vs:List Int):Int:=
 if ¬C.Ok then 10
 else if(ps.length:Int)≠C.aE\/(ws.length:Int)≠C.aE\/(os.length:Int)≠C.aS\/vs.length≠C.lines*2 then 1
 else if uC ps≠0 then uC ps
 else if ¬(within 0 3 ws=true/\within 0 4 os=true) then 10
 else 0
def words (mem:Nat->Ln):List Int->Nat->Nat->Ln
 |[],_=>mem
 |v::l,i=>words (pS mem i v) l (i+1)
def sN (p:List Ins) (w:Int):aK:={cJ:=fun _=>0,at':=0,world:=w,over:=De p 0,prog:=p}
def Xf (C:bM) (ps:List (List Ins)) (ws os vs:List Int):AM:=⟨C,fun i=>sN (ps.getD i []) (ws.getD i 0),os,words nE vs 0⟩
def gD (x:Ev):Bool:=decide (x.code=17)
def Oi (m:AM) (x:Ev):Int:=if(m.step x.core (gD x)).2.2=20 then 20 else if(m.step x.core (gD x)).2.2≠0\/(m.step x.core (gD x)).2.1≠x then 16 else 0
def lY:AM->List Ev->Nat->AM×Nat×Int
 |m,[],n=>(m,n,0)
 |m,x::l,n=>if Oi m x≠0 then(m,n,Oi m x) else lY (m.step x.core (gD x)).1 l (n+1)
theorem Ta {m:AM} {i:Nat} {x:Ins}:(m.access i x).1.cfg=m.cfg/\(m.access i x).1.dA=m.dA/\(∀j,j≠i->(m.access i x).1.aD j=m.aD j)/\((m.access i x).1.aD i).prog=(m.aD i).prog/\((m.access i x).1.aD i).at'=(m.aD i).at':=by
 unfold AM.access;repeat' split
 all_goals simp only[AM.nT,AM.kD,dC,aK.cK,true_and,and_true,and_self]
 all_goals first|(intro j a;rw[cH a])|skip
 all_goals simp
theorem D4 {m:AM} {c w g t:Int} {b:Bool}:(m.call c w g t b).1.cfg=m.cfg/\(m.call c w g t b).1.dA.length=m.dA.length/\(m.call c w g t b).1.aD=m.aD:=by
 unfold AM.call;repeat' split
 all_goals simp[AM.E5,AM.kD]
theorem Lk {m:AM} {i:Nat} {x:Ins} {b:Bool}:(m.pO i x b).1.cfg=m.cfg/\(m.pO i x b).1.dA.length=m.dA.length/\(∀j,j≠i->(m.pO i x b).1.aD j=m.aD j)/\((m.pO i x b).1.aD i).prog=(m.aD i).prog:=by
 have a:=Ta (m:=m) (i:=i) (x:=x);have d:=D4 (m:=m) (c:=x.a) (w:=(m.aD i).world) (g:=(m.aD i).cJ x.b.toNat) (t:=(m.aD i).cJ x.c.toNat) (b:=b);unfold AM.pO;repeat' split
 all_goals first
  |exact⟨a.1,by rw[a.2.1],a.2.2.1,a.2.2.2.1⟩
  |(refine⟨d.1,d.2.1,fun j e=>?_,?_⟩
    .simp only[AM.nT,cH e,d.2.2]
    .simp only[AM.nT,dC,aK.cK])
  |exact⟨rfl,rfl,fun _ _=>rfl,rfl⟩
  |(refine⟨rfl,rfl,fun j e=>?_,?_⟩
    .simp only[AM.nT,cH e]
    .simp only[AM.nT,dC,aK.cK,aK.Y3])
theorem Ux {x:Ins} {n:Int} (h:mL x n=0):(1<=x.op/\x.op<12)/\A6 ((C5 x.op.toNat).getD 0 0) x.a n=true/\A6 ((C5 x.op.toNat).getD 1 0) x.b n=true/\A6 ((C5 x.op.toNat).getD 2 0) x.c n=true:=by
 unfold mL at h;split at h;rename_i b;split at h;rename_i c;have a:=List.all_eq_true.1 c;refine⟨of_decide_eq_true b,?_,?_,?_⟩;exact a _ (List.mem_of_getElem? (Gg b (i:=0) (by omega)));exact a _ (List.mem_of_getElem? (Gg b (i:=1) (by omega)));exact a _ (List.mem_of_getElem? (Gg b (i:=2) (by omega)));cases h;cases h
structure Fits (x:Ins) (n:Int):Prop where
 r1:x.op=1\/x.op=2\/x.op=3\/x.op=4\/x.op=5\/x.op=10->0<=x.a/\x.a<4
 r2:x.op=2\/x.op=3\/x.op=4\/x.op=5\/x.op=8->0<=x.b/\x.b<4
 r3:x.op=2\/x.op=8->0<=x.c/\x.c<4
 p1:x.op=9->0<=x.a/\x.a<=n
 p2:x.op=10->0<=x.b/\x.b<=n
theorem Vg {x:Ins} {n:Int} (h:mL x n=0):Fits x n:=by
 obtain⟨_,a,b,c⟩:=Ux h;refine⟨fun e=>?_,fun e=>?_,fun e=>?_,fun e=>?_,fun e=>?_⟩;rcases e with e|e|e|e|e|e<;>rw[e] at a<;>exact of_decide_eq_true a;rcases e with e|e|e|e|e<;>rw[e] at b<;>exact of_decide_eq_true b;rcases e with e|e<;>rw[e] at c<;>exact of_decide_eq_true c;rw[e] at a;exact of_decide_eq_true a;rw[e] at b;exact of_decide_eq_true b
theorem Qx {p:List Ins} {a:Int} (h:De p a=false):a<p.length:=by
 unfold De at h;split at h;cases h;omega
theorem Jy {p:List Ins} {a:Int} (b:0<=a) (h:a<p.length):pW p a∈p:=by
 unfold pW;rw[List.getD_eq_getElem?_getD,List.getElem?_eq_getElem (by omega)];exact List.getElem_mem _
end
end Go.At
section
open Go Go.Ab
attribute [local irreducible] bE Br rT vO vB Dv nP xS mZ Ti iN nG pU sP rF lJ Cy xP Ya Xx Tj R3 Xc Td Rx Ub U1 mF pL vA kI copyV jQ zM Xp Yw Iz mA Pp Wr X7 pT tO Ao Cx Cl Bc Xb uL uF lI iQ cS cB
namespace Go.Proofs.YtajjljbmfdboaaaGreatDoor
open Go Go.Ab Go.Hm Go.At
section
set_option maxRecDepth 100000
variable {G:Bg} {h:AH} {L L':List HP} {Q:Value->AH->Prop}
theorem jz {C:bM} (d:Ob G 0 fV) (a:Hs G h L) (b:∀c,Hs G c L->Q (I (if C.Ok then C.lines else 0:Nat)) c):Cl Pr K 63 [.agg ⟨C.enc⟩] h Q:=by
 by_cases hC:C.Ok;rw[aLb hC] at b;exact rQ hC d a b;rw[aLa hC] at b;refine cW ?_;refine dS a ?_;intro p h a;refine aU a (by decide) (l:=C.enc) rfl rfl (nF d a fun h a=>?_);rw[aLa hC];exact bC (bV (by omega) (b _ a.tail))
theorem im {C:bM} (d:Ob G 0 fV) (a:Hs G h L) (c:∀b,Hs G b L->Q (I ((if C.Ok then C.lines else 0:Nat)*2:Nat)) b):Cl Pr K 90 [.agg ⟨C.enc⟩] h Q:=by
 refine cW (dS a fun p h a=>?_);refine aU a (by decide) (l:=C.enc) rfl rfl (jz d a fun h a=>?_);have e:(if C.Ok then C.lines else 0:Nat)<=32:=by
  split;rename_i hC;exact(bM.gK hC).2.2;omega
 refine vP (by omega) ?_;have:=c _ a.tail;rw[Int.natCast_mul] at this;exact this
theorem U5 {C:bM} (hC:C.Ok) (c:Ob G 0 fV) (d:Hs G h L) (b:∀a,Hs G a L->Q (I (C.lines*2:Nat)) a):Cl Pr K 90 [.agg ⟨C.enc⟩] h Q:=
 im c d (by rw[aLb hC];exact b)
theorem G1 {C:bM} (hC:C.Ok) {w:Int} (f:Ob G 0 fV) (a:Hs G h L)
  (b:∀c,Hs G c L->Q (if 0<=w/\w<C.lines*2 then .tuple ⟨[I (w.toNat/2:Nat),I (w.toNat % 2:Nat),I 0]⟩ else .tuple ⟨[I 0,I 0,I 10]⟩) c):Cl Pr K 182 [.agg ⟨C.enc⟩,I w] h Q:=by
 refine cW (dS a fun p h a=>aZ (aX (fun d=>?_) (fun d=>?_)))
 .have:=b _ a.tail;rw[aLa (by omega)] at this;exact this
 .refine aU a (by decide) (l:=C.enc) rfl rfl (U5 hC f a fun h a=>dO (aX (fun e=>?_) (fun e=>?_)))
  .have:=b _ a.tail;rw[aLa (by omega)] at this;exact this
  .have g:=(bM.gK hC).2.2;have:=b _ a.tail;rw[aLb (by omega)] at this;obtain⟨n,rfl⟩:∃n:Nat,w=n:=⟨w.toNat,by omega⟩;refine Fv (by omega) (by omega) (by omega) (Va (by omega) (by omega) ?_);exact this
theorem Zq {C:bM} (hC:C.Ok) {l:Nat} (e:l<C.lines) (d:Ob G 0 fV) (a:Hs G h L)
  (c:∀b,Hs G b L->Q (.tuple ⟨[I (l/2:Nat),I 0]⟩) b):Cl Pr K 191 [.agg ⟨C.enc⟩,I l] h Q:=by
 have f:=(bM.gK hC).2.2
 refine cW (dS a fun p h a=>aZ (aT (by omega) ?_))
 refine aU a (by decide) (l:=C.enc) rfl rfl (rQ hC d a fun h a=>dO (aT (by omega) ?_))
 exact Fv (by omega) (by omega) (by omega) (c _ a.tail)
theorem El {C:bM} {g:Int} (a:Hs G h L) (c:∀p q b,Hs G b (sp [aG p 0 C.enc,aG q 0 [I g]]::L)->Q (.func (.func 167) #[] #[pt p 0 0,pt q 0 0]) b):Cl Pr K 120 [.agg ⟨C.enc⟩,I g] h Q:=
 cW (dS a fun p _ a=>dS a fun q h a=>c p q h (Hs.H9 a.mK))
theorem He {C:bM} (hC:C.Ok) {g:Nat} (E:(g:Int)<C.aS) {p q:Nat} (u:Ob G 0 fV):xi Pr K G 167 [] [pt p 0 0,pt q 0 0] (sp [aG p 0 C.enc,aG q 0 [I g]]) ([g*2,g*2+1].map fun l:Nat=>[I l]):=by
 intro d J y L h Q a A k m;have D:C.aS<=16:=hC.2.1.2;have a:=a.Hh;refine cW (aU a (by decide) (l:=C.enc) rfl rfl (nF u a fun h a=>?_));rw[aLb hC];refine bC (aT (by omega) (aC (b:=q) (o:=0) a rfl (aZ (aT (by omega) (aC (b:=q) (o:=0) a rfl (aA (aC (b:=p) (o:=0) a rfl (dO (aT (by omega) (bW ?_))))))))));have loop:∀(f i:Nat) (h:AH),i+f=2->Hs G h (aG p 0 C.enc::aG q 0 [I g]::d (([g*2,g*2+1].drop i).map fun l:Nat=>[I l])::L)->Dd 167 2 [] Q [y,(pt q 0 0),(I i)] h:=by
  intro f;induction f with
  |zero=>
   intro i h t a;obtain rfl:i=2:=by omega
   exact bW (aZ (aT (by omega) (k _ _ (Hs.H9 a))))
  |succ f B=>
   intro i h t a;refine bW (aZ (bV (by omega) (bW (aC (b:=q) (o:=0) a rfl (vP (by omega) (bQ (by omega) ?_))))));obtain⟨x,z,r⟩:=oD (l:=[g*2,g*2+1]) (i:=i) (by simp;omega);have e:i=0\/i=1:=by omega
   have ex:x=g*2+i:=by rcases e with rfl|rfl<;>simp at z<;>omega
   rw[r,List.map_cons] at a;rw[show((g:Int)*2+(i:Int))=((x:Nat):Int) by omega];refine(A _ _ h _ (a.front (d ([I (x:Nat)]::([g*2,g*2+1].drop (i+1)).map fun l:Nat=>[I l])))).mono fun v j w=>?_;rcases w with⟨rfl,c⟩|⟨rfl,c⟩;exact cE (bZ (bW (bQ (by omega) (B (i+1) j (by omega) c.to))));exact cE (fK (m _ _ (Hs.H9 c.to)))
 exact loop 2 0 h rfl a
theorem E4 {o:Int} (a:Q (.bool (decide (0<=o/\o<=4))) h):Cl Pr K 183 [I o] h Q:=by
 refine cW (dO (aX (fun b=>Bp ?_) (fun b=>?_)));show Q _ _;rw[show decide (o<=4)=decide (0<=o/\o<=4) from decide_eq_decide.2 (by omega)];exact a;show Q _ _;rw[show false=decide (0<=o/\o<=4) from(decide_eq_false (by omega)).symm];exact a
theorem Rm {w o:Int} (a:Q (.bool (zW w o)) h):Cl Pr K 243 [I w,I o] h Q:=by
 unfold zW at a;refine cW (aZ (aX (fun d=>?_) (fun d=>mS (aX (fun e=>?_) (fun e=>E4 (cE (eO (aX (fun f=>?_) (fun f=>?_)))))))));rw[aLa (by omega)] at a;exact a;rw[aLa (by omega)] at a;exact a;rw[aLb (by omega)] at a;refine bJ (aX (fun b=>?_) (fun b=>bJ (aX (fun c=>?_) (fun c=>bJ ?_))));rw[decide_eq_true (.inl b)] at a;exact a;rw[decide_eq_true (.inr (.inl c))] at a;exact a;rw[show decide (w=0\/o=w\/o=4)=decide (o=4) from decide_eq_decide.2 (by omega)] at a;exact a;rw[aLa (by omega)] at a;exact a
end
end Go.Proofs.YtajjljbmfdboaaaGreatDoor
end
namespace Go.Hm
open Go Go.Ab
section
structure aJ where
 kind:Int
 core:Int
 line:Int
 world:Int
 state:Int
 d0:Int
 d1:Int
 kC:Bool
 no:Int
 deriving DecidableEq
def aJ.enc (n:aJ):List Value:=[I n.kind,I n.core,I n.line,I n.world,I n.state,I n.d0,I n.d1,.bool n.kC,I n.no]
def aJ.zero:aJ:=⟨0,0,0,0,0,0,0,false,0⟩
def eP (l:List aJ):List Value:=l.flatMap aJ.enc
theorem zF (l m:List aJ):eP (l++m)=eP l++eP m:=by simp[eP]
@[simp] theorem M5 (n:aJ) (l:List aJ):eP (n::l)=n.enc++eP l:=rfl
@[simp] theorem Oq:eP []=[]:=rfl
structure Row where
 owner:Int
 sh:Nat->Bool
 waits:List aJ
 busy:Bool
 served:aJ
 world:Int
 asked:Nat->Bool
 granted:Bool
 told:Bool
 d0:Int
 d1:Int
def Row.enc (r:Row) (a:Option Addr) (c:Nat):List Value:=
 [I r.owner,.bool (r.sh 0),.bool (r.sh 1),.bool (r.sh 2),.bool (r.sh 3),.slice a r.waits.length c,.bool r.busy,I r.served.kind,I r.served.core,I r.served.line,I r.served.world,I r.served.state,I r.served.d0,I r.served.d1,.bool r.served.kC,I r.served.no,
   I r.world,.bool (r.asked 0),.bool (r.asked 1),.bool (r.asked 2),.bool (r.asked 3),.bool r.granted,.bool r.told,I r.d0,I r.d1]
def Row.Z0 (r:Row):List Value:=[I r.owner,.bool (r.sh 0),.bool (r.sh 1),.bool (r.sh 2),.bool (r.sh 3)]
def Row.K3 (r:Row) (a:Option Addr) (c:Nat):List Value:=
 [.slice a r.waits.length c,.bool r.busy,I r.served.kind,I r.served.core,I r.served.line,I r.served.world,I r.served.state,I r.served.d0,I r.served.d1,.bool r.served.kC,I r.served.no,
   I r.world,.bool (r.asked 0),.bool (r.asked 1),.bool (r.asked 2),.bool (r.asked 3),.bool r.granted,.bool r.told,I r.d0,I r.d1]
theorem Row.iu (r:Row) (a:Option Addr) (c:Nat):r.enc a c=r.Z0++r.K3 a c:=rfl
def gW (f:Nat->Bool) (i:Int) (v:Bool):Nat->Bool:=fun j=>if(j:Int)=i then v else f j
def Row.free (r:Row):Row:={r with busy:=false,granted:=false,told:=false,served:=aJ.zero,world:=0,d0:=0,d1:=0}
def Row.leave (r:Row) (core:Int):Row:={r with sh:=gW r.sh core false,owner:=if r.owner=core then -1 else r.owner}
def Row.holds (r:Row) (but:Int) (i:Nat):Bool:=decide ((i:Int)≠but)&&(r.sh i||decide ((i:Int)=r.owner))
theorem xl {r:Row} {x:Int} {i:Nat} (h:(i:Int)≠x) (a:r.sh i=true):r.holds x i=true:=by simp[Row.holds,h,a]
theorem vz {r:Row} {x:Int} {i:Nat} (h:(i:Int)≠x) (a:(i:Int)=r.owner):r.holds x i=true:=by
 unfold Row.holds;rw[decide_eq_true h,decide_eq_true a];simp
theorem du {r:Row} {x:Int} {i:Nat} (h:(i:Int)=x):r.holds x i=false:=by
 unfold Row.holds;rw[decide_eq_false (by simpa using h)];rfl
theorem fq {r:Row} {x:Int} {i:Nat} (h:r.sh i=false) (a:(i:Int)≠r.owner):r.holds x i=false:=by
 unfold Row.holds;rw[h,decide_eq_false a];simp
def Row.tU (r:Row) (but:Int):Nat->Nat->Int
 |0,_=> -1
 |f+1,i=>if r.holds but i then i else r.tU but f (i+1)
def Row.first (r:Row) (but:Int):Int:=r.tU but 4 0
def Row.fD (r:Row) (but:Int):Nat->Nat->List Nat
 |0,_=>[]
 |f+1,i=>if r.holds but i then i::r.fD but f (i+1) else r.fD but f (i+1)
def Row.gA (r:Row) (but:Int):List Nat:=r.fD but 4 0
def Row.iA (r:Row) (l:List Nat):Row:={r with asked:=fun j=>r.asked j||l.contains j}
def eF (line state:Int) (l:List Nat):List aJ:=l.map fun(i:Nat)=>{aJ.zero with kind:=11,core:=(i:Int),line:=line,state:=state}
def Row.quiet (r:Row):Bool:= !(r.asked 0||r.asked 1||r.asked 2||r.asked 3)
abbrev lX:=Row×Ln
def Row.tJ (r:Row) (m:Ln):Ln:=if r.told then(r.d0,r.d1) else m
def Row.jY (r:Row) (line st:Int) (d:Ln):aJ:=⟨8,r.served.core,line,r.world,st,d.1,d.2,false,0⟩
def Row.eE (r:Row) (line:Int) (d:Ln):Row×List aJ:=
 if r.served.kind=2 then({r with owner:=r.served.core,sh:=fun _=>false,granted:=true},[r.jY line 4 d])
 else if r.first r.served.core= -1 then({r with owner:=r.served.core,sh:=gW r.sh r.served.core false,granted:=true},[r.jY line 2 d])
 else({r with sh:=gW r.sh r.served.core true,granted:=true},[r.jY line 1 d])
def valid (s:Int):Bool:=decide (0<=s/\s<5)&&decide (s≠0)
def Row.eZ (r:Row) (n:aJ):Row:={r with asked:=gW r.asked n.core false}
def Row.Dq (r:Row) (n:aJ):Row:={r with owner:= -1,sh:=gW r.sh n.core (valid n.state)}
def Row.lG (r:Row) (n:aJ):Row:={r with told:=true,d0:=n.d0,d1:=n.d1}
def Row.heard (r:Row) (n:aJ):Row:=
 if r.served.kind≠1 then(r.eZ n).leave n.core
 else if n.state≠3 then(if n.kC then((r.eZ n).Dq n).lG n else(r.eZ n).Dq n)
 else if n.kC then(r.eZ n).lG n else r.eZ n
def Row.vK (r:Row) (m:Ln) (n:aJ):Ln:=if r.served.kind≠1/\n.kC=true then(n.d0,n.d1) else m
def Row.rest (r:Row) (line:Int) (m:Ln):Row×List aJ:=
 if r.quiet then(if r.served.kind=0 then(r.free,[]) else r.eE line (r.tJ m)) else(r,[])
def lX.nJ (x:lX) (line:Int) (n:aJ):lX×List aJ:=
 let m:=x.1.vK x.2 n
 let g:=(x.1.heard n).rest line m
 ((g.1,m),g.2)
def Row.serve (r:Row) (n:aJ) (world:Int):Row:={r with busy:=true,served:=n,world:=world}
def Row.getM (r:Row) (line:Int) (m:Ln):Row×List aJ:=
 if r.first r.served.core≠ -1 then(r.iA (r.gA r.served.core),eF line 0 (r.gA r.served.core)) else r.eE line (r.tJ m)
def Row.Wb (r:Row) (line:Int) (m:Ln):Row×List aJ:=
 if r.owner≠ -1 then(r.iA [r.owner.toNat],eF line 1 [r.owner.toNat]) else r.eE line (r.tJ m)
def Row.nZ (r:Row):Row:=if r.owner=r.served.core then {r with owner:= -1} else r
def Row.get (r:Row) (line:Int) (m:Ln) (n:aJ) (world:Int):Row×List aJ:=
 let r:=r.serve n world
 if n.kind=2 then r.getM line m else r.nZ.Wb line m
def Row.wait (r:Row) (n:aJ):Row:={r with waits:=r.waits++[n]}
def Row.next (r:Row) (w:List aJ):Row:={r with waits:=w}
def Row.Nl (r:Row) (n:aJ):Row:={r with busy:=true,served:=n}
def lX.take (x:lX) (line:Int) (n:aJ):lX×List aJ×Int:=
 if n.kind=4 then(if x.1.granted=false\/x.1.served.core≠n.core then(x,[],16) else((x.1.free,x.2),[],0))
 else if n.kind=5 then(if x.1.asked n.core.toNat=false then(x,[],16) else let g:=lX.nJ x line n;(g.1,g.2,0))
 else((x.1.wait n,x.2),[],0)
def mX (line:Int):aJ:={aJ.zero with line:=line}
def lX.yj (x:lX) (line:Int):lX:=(x.1.wait (mX line),x.2)
def nC (kind core line:Int):aJ:={aJ.zero with kind:=kind,core:=core,line:=line}
def Row.begun (r:Row) (line:Int) (m:Ln) (n:aJ) (j:Int->Int×Bool):lX×List aJ:=
 if n.kind=3 then((r.leave n.core,if r.owner=n.core/\n.kC=true then(n.d0,n.d1) else m),[nC 10 n.core line])
 else if n.kind=1\/n.kind=2 then(if(j n.world).2=true then let g:=r.get line m n (j n.world).1;((g.1,m),g.2) else((r,m),[nC 9 n.core line]))
 else if r.first (-1)= -1 then((r,m),[])
 else(((r.Nl n).iA (r.gA (-1)),m),eF line 0 (r.gA (-1)))
def lX.begin (x:lX) (line:Int) (j:Int->Int×Bool):lX×List aJ×Int:=
 if x.1.busy=true then(x,[],16)
 else match x.1.waits with
  |[]=>(x,[],12)
  |n::w=>let g:=Row.begun (x.1.next w) line x.2 n j;(g.1,g.2,0)
abbrev kN:=Nat->lX
def xN:Row:=⟨-1,fun _=>false,[],false,aJ.zero,0,fun _=>false,false,false,0,0⟩
theorem Ix {r:Row} {x:Int}:∀(f i:Nat),i+f=4->(∀c∈r.fD x f i,c<4)/\(r.fD x f i).length<=f:=by
 intro f;induction f with
 |zero=>intro i d;simp[Row.fD]
 |succ f e=>
  intro i d;obtain⟨b,g⟩:=e (i+1) (by omega);unfold Row.fD;split;refine⟨fun c a=>?_,by simp;omega⟩;rcases List.mem_cons.1 a with rfl|a;omega;exact b c a;exact⟨b,by omega⟩
theorem Z6 {r:Row} {x:Int}:∀c∈r.gA x,c<4:=(Ix 4 0 rfl).1
theorem uW {r:Row} {x:Int}:(r.gA x).length<=4:=(Ix 4 0 rfl).2
def bM.has (C:bM) (l:Int):Prop:=0<=l/\l<C.lines
instance (C:bM) (l:Int):Decidable (C.has l):=by unfold bM.has;infer_instance
def fM (k:Int):Prop:=k=1\/k=2\/k=3\/k=4\/k=5
instance (k:Int):Decidable (fM k):=by unfold fM;infer_instance
def kN.at (H:kN) (l:Int):lX:=H l.toNat
def fF (C:bM) (H:kN) (n:aJ):kN×List aJ×Int:=
 if ¬fM n.kind then(H,[],15)
 else if(0<=n.core/\n.core<C.aE)/\C.has n.line then(aR H n.line.toNat (lX.take (H n.line.toNat) n.line n).1,(lX.take (H n.line.toNat) n.line n).2)
 else(H,[],10)
def jI (C:bM) (H:kN) (l:Int):kN×Int:=if C.has l then(aR H l.toNat (lX.yj (H l.toNat) l),0) else(H,10)
def iC (C:bM) (H:kN) (l:Int) (j:Int->Int×Bool):kN×List aJ×Int:=
 if C.has l then(aR H l.toNat (lX.begin (H l.toNat) l j).1,(lX.begin (H l.toNat) l j).2) else(H,[],10)
structure Row.Inv (r:Row):Prop where
 core:0<=r.served.core/\r.served.core<4
 owner: -1<=r.owner/\r.owner<4
 waits:∀n∈r.waits,0<=n.core/\n.core<4
def yD (C:bM) (H:kN) (N:Nat):Prop:=∀l,l<C.lines->(H l).1.Inv/\(H l).1.waits.length<=N
def sE (n:Nat):kN:=fun i=>if i<n then(xN,(0,0)) else({xN with owner:=0},(0,0))
theorem oq {n:Nat}:aR (sE n) n (xN,(0,0))=sE (n+1):=by
 funext i;unfold aR sE;by_cases h:i=n;rw[aLb h,aLb (by omega)];rw[aLa h];by_cases a:i<n;rw[aLb a,aLb (by omega)];rw[aLa a,aLa (by omega)]
def aJ.fits (n r:aJ) (len:Nat):Prop:=
 n.line=r.line/\n.no=0/\((n.kind=8/\n.core=r.core/\len=1/\(r.kind=1\/r.kind=2))\/(n.kind=9/\n.world=0/\n.core=r.core/\len=1/\(r.kind=1\/r.kind=2))\/
  (n.kind=10/\n.world=0/\n.core=r.core/\len=1/\r.kind=3)\/(n.kind=11/\n.world=0/\n.core≠r.core/\(r.kind=1\/r.kind=2\/(r.kind=0/\n.state=0))))
end
end Go.Hm
namespace Go.Ct
open Go Go.Ab Go.Hm
section
def Ql (s:Int):Bool:=decide (1<=s/\s<=4)
def tL (s:Int):Bool:=decide (s=2\/s=4)
def jR (s:Int):Bool:=decide (s=3\/s=4)
def Dt (s:Int):Bool:=decide (2<=s/\s<=4)
def isS (s:Int):Bool:=decide (0<=s/\s<5)
def Jb (s:Int):Int:=if s=2 then 1 else if s=4 then 3 else s
def lS (s:Int) (w:Bool):Bool:=if w then tL s else Ql s
structure pQ where
 st:Int
 w:Int
 d:Ln
 deriving DecidableEq
def pQ.enc (x:pQ):List Value:=[I x.st,I x.w,I x.d.1,I x.d.2]
def pQ.zero:pQ:=⟨0,0,(0,0)⟩
abbrev Th:=Int×pQ
def q5 (t:Th):List Value:=I t.1::t.2.enc
def eX (l:List Th):List Value:=l.flatMap q5
theorem Cb (l:List Th):(eX l).length=l.length*5:=by
 induction l with
 |nil=>rfl
 |cons a t b=>simp only[eX,List.flatMap_cons,List.length_append] at b ⊢;rw[b];simp[q5,pQ.enc];omega
theorem yU (l:List Th):(eX l).all eJ=true:=by
 induction l with
 |nil=>rfl
 |cons a t b=>simp only[eX,List.flatMap_cons,List.all_append,Bool.and_eq_true] at b ⊢;exact⟨rfl,b⟩
theorem ld (l m:List Th):eX (l++m)=eX l++eX m:=by simp[eX]
theorem Xl (l:List Th) (i:Nat):(eX l).take (i*5)=eX (l.take i):=by
 induction l generalizing i with
 |nil=>simp[eX]
 |cons a t b=>
  cases i with
  |zero=>simp[eX]
  |succ i=>
   have:(i+1)*5=5+i*5:=by omega
   simp only[eX,List.flatMap_cons,List.take_succ_cons] at b ⊢;rw[this,List.take_append,List.take_of_length_le (by simp[q5,pQ.enc])];have c:(q5 a).length=5:=rfl;rw[c,show 5+i*5 - 5=i*5 by omega,b]
theorem Km (l:List Th) (i:Nat):(eX l).drop (i*5)=eX (l.drop i):=by
 induction l generalizing i with
 |nil=>simp[eX]
 |cons a t c=>
  cases i with
  |zero=>simp[eX]
  |succ i=>
   have:(i+1)*5=5+i*5:=by omega
   simp only[eX,List.flatMap_cons,List.drop_succ_cons] at c ⊢;have b:(q5 a).length=5:=rfl;rw[this,List.drop_append,List.drop_of_length_le (by rw[b];omega),b,show 5+i*5 - 5=i*5 by omega,c,List.nil_append]
theorem T6 {l:List Th} {i:Nat} {t:Th} (h:l[i]?=some t):((eX l).drop (i*5)).take 5=q5 t:=by
 rw[Km];have a:=(List.getElem?_eq_some_iff.1 h);rw[List.drop_eq_getElem_cons a.1,a.2];simp only[eX,List.flatMap_cons];exact List.take_left' rfl
def ix (no:Int):List Th->Option Nat
 |[]=>none
 |t::l=>if t.1=no then some 0 else(ix no l).map (·+1)
def pz (no:Int) (l:List Th):Int:=match ix no l with|some i=>i|none=> -1
def get (no:Int) (l:List Th):Option pQ:=(l.find? fun t=>decide (t.1=no)).map (·.2)
def rem (no:Int):List Th->List Th
 |[]=>[]
 |t::l=>if t.1=no then l else t::rem no l
theorem yG {no:Int} {l:List Th} {i:Nat} (h:ix no l=some i):∃x,l[i]?=some (no,x)/\get no l=some x/\rem no l=l.take i++l.drop (i+1)/\i<l.length:=by
 induction l generalizing i with
 |nil=>cases h
 |cons t l e=>
  simp only[ix] at h;by_cases a:t.1=no;rw[aLb a] at h;cases h;exact⟨t.2,by simp[<-a],by simp[get,a],by simp[rem,a],by simp⟩;rw[aLa a] at h;cases hx:ix no l with
  |none=>rw[hx] at h;cases h
  |some j=>
   rw[hx] at h;cases h;obtain⟨x,c,b,d,f⟩:=e hx;refine⟨x,by simpa using c,?_,?_,by simp;omega⟩;simp only[get,List.find?_cons,decide_eq_false a] at b ⊢;exact b;simp[rem,a,d]
theorem B5 {no:Int} {l:List Th} (h:ix no l=none):get no l=none/\rem no l=l:=by
 induction l with
 |nil=>exact⟨rfl,rfl⟩
 |cons t l d=>
  simp only[ix] at h;by_cases a:t.1=no;rw[aLb a] at h;cases h;rw[aLa a] at h;obtain⟨b,c⟩:=d (by simpa using h);refine⟨?_,by simp[rem,a,c]⟩;simp only[get,List.find?_cons,decide_eq_false a] at b ⊢;exact b
theorem I7 {no:Int} {l:List Th}:(rem no l).length=if(get no l).isSome then l.length - 1 else l.length:=by
 cases h:ix no l with
 |none=>obtain⟨b,a⟩:=B5 h;rw[b,a];rfl
 |some i=>
  obtain⟨x,b,a,c,d⟩:=yG h;rw[a,c];simp;omega
structure gZ where
 S:Nat->List Th
 al:Int
 aw:Bool
 D9:Bool
 gl:Int
 gc:pQ
 sS:Bool
def gZ.new:gZ:=⟨fun _=>[],0,false,false,0,pQ.zero,false⟩
def gZ.tail (c:gZ):List Value:=[I c.al,.bool c.aw,.bool c.D9,I c.gl]++c.gc.enc++[.bool c.sS]
variable (n:Nat) (ways:Nat) (lines:Int) (core:Int)
def setOf (l:Int):Nat:=(l % (n:Int)).toNat
def gZ.aGc (c:gZ) (l:Int):Option pQ:=if l<0 then none else get l (c.S (setOf n l))
def gZ.may (c:gZ) (l a:Int) (w:Bool):Bool:=match c.aGc n l with
 |some x=>decide (x.w=a)&&lS x.st w
 |none=>false
def gZ.set (c:gZ) (l:Int) (s:List Th):gZ:={c with S:=aR c.S (setOf n l) s}
def gZ.drop (c:gZ) (l:Int):gZ:=c.set n l (rem l (c.S (setOf n l)))
def gZ.put (c:gZ) (l:Int) (x:pQ):gZ:=c.set n l (if(rem l (c.S (setOf n l))).length>=ways then rem l (c.S (setOf n l)) else rem l (c.S (setOf n l))++[(l,x)])
end
section
variable {n ways:Nat} {S:Nat->List Th} {s:gZ} {C:bM} {core:Int}
def gH (x to:Int):Int:=if to=1 then Jb x else 0
def bA (n:Nat) (S:Nat->List Th) (no:Int):pQ×Int:=if no<0 then(pQ.zero,10) else match get no (S (setOf n no)) with|some x=>(x,0)|none=>(pQ.zero,12)
def yH (n ways:Nat) (S:Nat->List Th) (no:Int):Option Th:=match get no (S (setOf n no)) with
 |some _=>none
 |none=>if(S (setOf n no)).length<ways then none else(S (setOf n no))[0]?
def gG (n:Nat) (S:Nat->List Th) (no:Int):Nat->List Th:=if no<0 then S else aR S (setOf n no) (rem no (S (setOf n no)))
def kJ (n ways:Nat) (S:Nat->List Th) (no:Int) (x:pQ):(Nat->List Th)×Int:=
 if(rem no (S (setOf n no))).length>=ways then(aR S (setOf n no) (rem no (S (setOf n no))),11) else(aR S (setOf n no) (rem no (S (setOf n no))++[(no,x)]),0)
theorem aJ9 {no:Int} {l:List Th} (h:l.length<=4):(rem no l).length<=4:=by rw[I7];split<;>omega
theorem qf {n:Nat} {S:Nat->List Th} {no:Int} (hb:∀i,(S i).length<=4):∀i,(gG n S no i).length<=4:=by
 intro i;unfold gG;split;exact hb i;unfold aR;split;exact aJ9 (hb _);exact hb i
def wP (n ways:Nat) (S:Nat->List Th) (no:Int):Nat->List Th:=if(bA n S no).2=0 then(kJ n ways (gG n S no) no (bA n S no).1).1 else gG n S no
def w9 (n ways:Nat) (S:Nat->List Th) (no:Int):Int:=if(bA n S no).2=0 then(kJ n ways (gG n S no) no (bA n S no).1).2 else(bA n S no).2
def sB (C:bM) (l:Int):Bool:=decide (0<=l/\l<C.lines)
def mL (n:Nat) (S:Nat->List Th) (l a:Int) (w:Bool):Bool:=decide ((bA n S l).2=0)&&decide ((bA n S l).1.w=a)&&lS (bA n S l).1.st w
def mD (C:bM) (S:Nat->List Th) (l at' a:Int) (w:Bool):Int:=
 if sB C l=false then 10 else if at'<0 then 10 else if at'>=2 then 10 else if mL C.aI.toNat S l a w=false then 16 else 0
def mV (C:bM) (s:gZ) (l at' a:Int):gZ:=if mD C s.S l at' a false=0 then {s with S:=wP C.aI.toNat C.ways.toNat s.S l} else s
def vq (d:Ln) (at' v:Int):Ln:=if at'=0 then(v,d.2) else(d.1,v)
def pD (n:Nat) (S:Nat->List Th) (l at' v:Int):pQ:=⟨4,(bA n S l).1.w,vq (bA n S l).1.d at' v⟩
def jD (C:bM) (s:gZ) (l at' a v:Int):gZ:=if mD C s.S l at' a true=0 then {s with S:=(kJ C.aI.toNat C.ways.toNat s.S l (pD C.aI.toNat s.S l at' v)).1} else s
def Bd (s:gZ):Prop:=∀i,(s.S i).length<=4
theorem lK (hC:C.Ok):0<C.aI.toNat/\C.aI.toNat<=8/\0<C.ways.toNat/\C.ways.toNat<=4:=by unfold bM.Ok at hC;omega
theorem qF {S:Nat->List Th} {l at' c:Int} {w:Bool} (h:mD C S l at' c w=0):(0<=l/\l<C.lines)/\(at'=0\/at'=1)/\(bA C.aI.toNat S l).2=0/\lS (bA C.aI.toNat S l).1.st w=true:=by
 unfold mD at h;split at h;omega;split at h;omega;split at h;omega;split at h;omega;rename_i a d e b;have a:sB C l=true:=by simpa using a
 have b:mL C.aI.toNat S l c w=true:=by simpa using b
 unfold sB at a;unfold mL at b;grind
def mU (core:Int) (s:gZ) (l w:Int) (wr:Bool) (ns:List aJ):gZ×List aJ×Int:=
 ({s with al:=l,aw:=wr,D9:=true},ns++[⟨if wr then 2 else 1,core,l,w,0,0,0,false,0⟩],0)
def Bb (C:bM) (core:Int) (s:gZ) (l w:Int) (wr:Bool):gZ×List aJ×Int:=
 match yH C.aI.toNat C.ways.toNat s.S l with
 |none=>mU core s l w wr []
 |some v=>
  if s.sS then(s,[],11) else
  if(bA C.aI.toNat s.S v.1).2≠0 then({s with S:=gG C.aI.toNat s.S v.1},[],(bA C.aI.toNat s.S v.1).2) else
  mU core {s with S:=gG C.aI.toNat s.S v.1,gl:=v.1,gc:=(bA C.aI.toNat s.S v.1).1,sS:=true} l w wr
   [⟨3,core,v.1,(bA C.aI.toNat s.S v.1).1.w,0,(bA C.aI.toNat s.S v.1).1.d.1,(bA C.aI.toNat s.S v.1).1.d.2,jR (bA C.aI.toNat s.S v.1).1.st,0⟩]
def want (C:bM) (core:Int) (s:gZ) (l w:Int) (wr:Bool):gZ×List aJ×Int:=
 if sB C l=false then(s,[],10) else if s.D9 then(s,[],17) else if s.sS=true/\s.gl=l then(s,[],16) else
 if(bA C.aI.toNat s.S l).2=0/\lS (bA C.aI.toNat s.S l).1.st wr=true then(s,[],13) else Bb C core s l w wr
abbrev Tk:=gZ×List aJ×Int
def jB (C:bM) (s:gZ) (n:aJ):pQ:=⟨n.state,n.world,if(bA C.aI.toNat s.S n.line).2=0 then(bA C.aI.toNat s.S n.line).1.d else(n.d0,n.d1)⟩
def vI (C:bM) (core:Int) (s:gZ) (n:aJ):Tk:=
 if s.D9=false then(s,[],16) else if s.al≠n.line then(s,[],16) else
 if(kJ C.aI.toNat C.ways.toNat s.S n.line (jB C s n)).2≠0 then({s with S:=(kJ C.aI.toNat C.ways.toNat s.S n.line (jB C s n)).1},[],(kJ C.aI.toNat C.ways.toNat s.S n.line (jB C s n)).2) else
 ({s with S:=(kJ C.aI.toNat C.ways.toNat s.S n.line (jB C s n)).1,al:=0,aw:=false,D9:=false},[⟨4,core,n.line,0,0,0,0,false,0⟩],0)
def Gj (s:gZ) (n:aJ):Tk:=if s.D9=false then(s,[],16) else if s.al≠n.line then(s,[],16) else({s with al:=0,aw:=false,D9:=false},[],0)
def sW (s:gZ) (n:aJ):Tk:=if s.sS=false then(s,[],12) else if s.gl≠n.line then(s,[],12) else({s with gl:=0,gc:=pQ.zero,sS:=false},[],0)
def gY (core:Int) (n:aJ) (x:pQ):aJ:=if Dt x.st then⟨5,core,n.line,0,gH x.st n.state,x.d.1,x.d.2,jR x.st,0⟩ else⟨5,core,n.line,0,gH x.st n.state,0,0,false,0⟩
def nV (C:bM) (core:Int) (s:gZ) (n:aJ):Tk:=
 if n.state≠1/\n.state≠0 then(s,[],10) else
 if(bA C.aI.toNat s.S n.line).2=0 then
  ({s with S:=if gH (bA C.aI.toNat s.S n.line).1.st n.state=0 then gG C.aI.toNat s.S n.line else(kJ C.aI.toNat C.ways.toNat s.S n.line {(bA C.aI.toNat s.S n.line).1 with st:=gH (bA C.aI.toNat s.S n.line).1.st n.state}).1},[gY core n (bA C.aI.toNat s.S n.line).1],0)
 else if s.sS=false then(s,[⟨5,core,n.line,0,0,0,0,false,0⟩],0) else if s.gl≠n.line then(s,[⟨5,core,n.line,0,0,0,0,false,0⟩],0) else
  ({s with gc:={s.gc with st:=gH s.gc.st n.state}},[gY core n s.gc],0)
def fX (C:bM) (core:Int) (s:gZ) (n:aJ):Tk:=
 if n.kind=8 then(if sB C n.line=false then(s,[],10) else vI C core s n)
 else if n.kind=9 then(if sB C n.line=false then(s,[],10) else Gj s n)
 else if n.kind=10 then(if sB C n.line=false then(s,[],10) else sW s n)
 else if n.kind=11 then(if sB C n.line=false then(s,[],10) else nV C core s n)
 else(s,[],15)
def N9 (core:Int) (n:aJ):aJ:=⟨5,core,n.line,0,0,0,0,false,0⟩
structure Sts (n:Nat) (s:gZ):Prop where
 aGc:∀l,(bA n s.S l).2=0->0<=(bA n s.S l).1.st/\(bA n s.S l).1.st<5
 back:s.sS=true->0<=s.gc.st/\s.gc.st<5
theorem vE {no:Int} {l:List Th}:(rem no l).Sublist l:=by
 induction l with
 |nil=>exact List.Sublist.refl _
 |cons t l a=>
  simp only[rem];grind
theorem Jk {no:Int} {l:List Th} (h:(l.map (·.1)).Nodup):no∉(rem no l).map (·.1):=by
 induction l with
 |nil=>simp[rem]
 |cons t l a=>
  simp only[List.map_cons,List.nodup_cons] at h;simp only[rem];grind
theorem get_mem {no:Int} {l:List Th} {x:pQ} (h:get no l=some x):(no,x)∈l:=by
 unfold Go.Ct.get at h;cases hf:l.find? (fun t=>decide (t.1=no)) with
 |none=>rw[hf] at h;cases h
 |some t=>
  grind
theorem eu {no:Int} {l:List Th} (h:no∉l.map (·.1)):get no l=none:=by
 unfold Go.Ct.get;grind
theorem uo {no:Int} {l:List Th} {x:pQ} (h:no∉l.map (·.1)):get no (l++[(no,x)])=some x:=by
 have a:=eu h;unfold Go.Ct.get at a ⊢;grind
structure oA (ways:Nat) (l:List Th):Prop where
 len:l.length<=ways
 st:∀t∈l,1<=t.2.st/\t.2.st<=4
 nd:(l.map (·.1)).Nodup
theorem oA.rem {ways:Nat} {l:List Th} {no:Int} (h:oA ways l):oA ways (Go.Ct.rem no l):=
 ⟨Nat.le_trans vE.length_le h.len,fun t a=>h.st t (vE.mem a),(vE.map _).nodup h.nd⟩
theorem oA.app {ways:Nat} {l:List Th} {no:Int} {x:pQ} (h:oA ways l) (c:l.length<ways) (e:1<=x.st/\x.st<=4) (d:no∉l.map (·.1)):oA ways (l++[(no,x)]):=
 ⟨by simp;omega,fun t b=>by
  rcases List.mem_append.1 b with a|a;exact h.st t a;grind,by
  rw[List.map_append,List.nodup_append];refine⟨h.nd,by simp,?_⟩;grind⟩
def Pl (n:Nat) (S:Nat->List Th):Prop:=∀i t,t∈S i->0<=t.1/\setOf n t.1=i
theorem Cc {n:Nat} {S:Nat->List Th} {no:Int} (h:Pl n S):Pl n (gG n S no):=by
 intro i t a;unfold gG at a;split at a;exact h i t a;unfold aR at a;split at a;rename_i e;subst e;exact h _ t (vE.mem a);exact h i t a
theorem Lu {n ways:Nat} {S:Nat->List Th} {no:Int} {x:pQ} (c:0<=no) (h:Pl n S):Pl n (kJ n ways S no x).1:=by
 intro i t a;unfold kJ at a;split at a;unfold aR at a;dsimp only at a;split at a;rename_i e;subst e;exact h _ t (vE.mem a);exact h i t a;unfold aR at a;dsimp only at a;split at a;rename_i e;subst e;rcases List.mem_append.1 a with b|b;exact h _ t (vE.mem b);grind;exact h i t a
structure Good (n ways:Nat) (s:gZ):Prop where
 aI:∀i,oA ways (s.S i)
 back:s.sS=true->0<=s.gc.st/\s.gc.st<=4
 pl:Pl n s.S
theorem pX {no:Int} (h:∀i,oA ways (S i)):∀i,oA ways (gG n S no i):=by
 intro i;unfold gG;split;exact h i;unfold aR;split;exact(h _).rem;exact h i
theorem Bm {no:Int} {x:pQ} (a:1<=x.st/\x.st<=4) (h:∀i,oA ways (S i)):∀i,oA ways ((kJ n ways S no x).1 i):=by
 intro i;unfold kJ;split;unfold aR;dsimp only;split;exact(h _).rem;exact h i;rename_i b;unfold aR;dsimp only;split;exact((h (setOf n no)).rem).app (by omega) a (Jk (h _).nd);exact h i
theorem sV {l:Int} (h:∀i,oA ways (S i)) (a:(bA n S l).2=0):1<=(bA n S l).1.st/\(bA n S l).1.st<=4:=by
 unfold bA at a ⊢;split at a;cases a;rename_i b;rw[aLa b];cases hg:get l (S (setOf n l)) with
 |none=>grind
 |some x=>exact(h _).st _ (get_mem hg)
theorem xd {no:Int} (h:∀i,oA ways (S i)):∀i,oA ways (wP n ways S no i):=by
 intro i;unfold wP;split;rename_i a;exact Bm (sV h a) (pX h) i;exact pX h i
theorem y0 {no:Int} (a:(bA n S no).2=0):0<=no:=by
 unfold bA at a;grind
theorem aFk {no:Int} (h:Pl n S):Pl n (wP n ways S no):=by
 unfold wP;split;rename_i a;exact Lu (y0 a) (Cc h);exact Cc h
theorem Good.bd (h:Good n ways s) (a:ways<=4):Bd s:=fun i=>Nat.le_trans (h.aI i).len a
theorem Good.sts (h:Good n ways s):Sts n s:=⟨fun l b=>by have:=sV (n:=n) h.aI b;omega,fun a=>by have:=h.back a;omega⟩
theorem U8:Good n ways gZ.new:=⟨fun _=>⟨Nat.zero_le _,(fun _ h=>by cases h),List.nodup_nil⟩,(fun h=>by cases h),fun _ _ h=>by cases h⟩
abbrev iL (C:bM) (s:gZ):Prop:=Good C.aI.toNat C.ways.toNat s
theorem je {l w:Int} {wr:Bool} (h:iL C s):iL C (want C core s l w wr).1:=by
 unfold want;split;exact h;split;exact h;split;exact h;split;exact h;unfold Bb;split;exact⟨h.aI,h.back,h.pl⟩;split;exact h;split;exact⟨pX h.aI,h.back,Cc h.pl⟩;rename_i v _ _ a;have a:(bA C.aI.toNat s.S v.1).2=0:=by simpa using a
 exact⟨pX h.aI,fun _=>(by have:=sV (n:=C.aI.toNat) h.aI a;exact⟨by show 0<=(bA C.aI.toNat s.S v.1).1.st;omega,this.2⟩),Cc h.pl⟩
theorem Bw {x to:Int} (a:0<=x/\x<=4):0<=gH x to/\gH x to<=4:=by
 unfold gH Jb;grind
theorem Qe {nt:aJ} (d:nt.kind=8->1<=nt.state/\nt.state<=4) (h:iL C s):iL C (fX C core s nt).1:=by
 unfold fX;split;rename_i b;split;exact h;rename_i g;have a:0<=nt.line:=(of_decide_eq_true (by simpa using g:sB C nt.line=true)).1;unfold vI;split;exact h;split;exact h;split;exact⟨Bm (d b) h.aI,h.back,Lu a h.pl⟩;exact⟨Bm (d b) h.aI,h.back,Lu a h.pl⟩
 .split;split;exact h;unfold Gj;split;exact h;split;exact h;exact⟨h.aI,h.back,h.pl⟩
  .split;split;exact h;unfold sW;split;exact h;split;exact h;exact⟨h.aI,(fun e=>by cases e),h.pl⟩
   .split
    .split;exact h
     .unfold nV;split;exact h
      .split
       .rename_i c;have a:=y0 c;have j:=sV (n:=C.aI.toNat) h.aI c;refine⟨?_,h.back,?_⟩;rotate_left;dsimp only;split;exact Cc h.pl;exact Lu a h.pl;dsimp only;split;exact pX h.aI;rename_i i;exact Bm (by have:=Bw (x:=(bA C.aI.toNat s.S nt.line).1.st) (to:=nt.state) (by omega);dsimp only;omega) h.aI
       split;exact h;split;exact h;rename_i f _;exact⟨h.aI,(fun _=>Bw (h.back (by simpa using f))),h.pl⟩
    exact h
theorem G7 {l a b:Int} (h:iL C s):iL C (mV C s l a b):=by
 unfold mV;split;exact⟨xd h.aI,h.back,aFk h.pl⟩;exact h
theorem Nh {l a c v:Int} (h:iL C s):iL C (jD C s l a c v):=by
 unfold jD;split;rename_i b;exact⟨Bm (by simp[pD]) h.aI,h.back,Lu (qF b).1.1 h.pl⟩;exact h
theorem vt {l w:Int} {wr:Bool}:(want C core s l w wr).2.1.length<=2:=by
 unfold want;split;simp;split;simp;split;simp;split;simp;unfold Bb;split;simp[mU];split;simp;split;simp;simp[mU]
theorem xw {nt:aJ}:(fX C core s nt).2.1.length<=1:=by
 unfold fX vI Gj sW nV;grind
end
end Go.Ct
namespace Go.Nt
open Go Go.Ab Go.Hm
section
def Xz:List (List UInt8×Int×List Int):=[
 ([],0,[0,0,0,0,0,0,0]),
  ([103,101,116,115],0,[1,2,3,0,0,0,0]),
  ([103,101,116,109],0,[1,2,3,0,0,0,0]),
  ([112,117,116],0,[1,2,4,8,9,10,0]),
  ([100,111,110,101],1,[1,2,0,0,0,0,0]),
  ([114,101,112,108,121],1,[1,2,5,8,9,10,11]),
  ([119,97,108,107],0,[1,12,0,0,0,0,0]),
  ([100,114,111,112,112,101,100],1,[1,13,0,0,0,0,0]),
  ([103,114,97,110,116],2,[1,2,4,6,8,9,0]),
  ([110,97,99,107],2,[1,2,11,0,0,0,0]),
  ([112,117,116,97,99,107],2,[1,2,0,0,0,0,0]),
  ([112,114,111,98,101],3,[1,2,7,0,0,0,0]),
  ([119,97,108,107,101,100],2,[1,8,9,12,0,0,0]),
  ([100,114,111,112],3,[1,13,0,0,0,0,0])]
def aC5 (r:List UInt8×Int×List Int):List Value:= .string ⟨r.1.toArray⟩::I r.2.1::r.2.2.map I
def yI:List Value:=Xz.flatMap aC5
def j5 (k:Nat):List Int:=(Xz.getD k ([],0,[])).2.2
def Pa (k:Nat):Int:=(Xz.getD k ([],0,[])).2.1
def ws (arr:List Int):Nat->Nat->List Int
 |0,_=>[]
 |f+1,i=>if arr.getD i 0=0 then [] else arr.getD i 0::ws arr f (i+1)
def Dx (k:Nat):List Int:=ws (j5 k) 7 0
theorem k14 {k:Nat} (h:k<14):k=0\/k=1\/k=2\/k=3\/k=4\/k=5\/k=6\/k=7\/k=8\/k=9\/k=10\/k=11\/k=12\/k=13:=by omega
theorem Xo {k:Nat} (h:k<14):yI[k*9+1]?=some (I (Pa k)):=by
 rcases k14 h with rfl|rfl|rfl|rfl|rfl|rfl|rfl|rfl|rfl|rfl|rfl|rfl|rfl|rfl<;>rfl
theorem ic {k:Nat} (h:k<14):(yI.drop (k*9+2)).take 7=(j5 k).map I:=by
 rcases k14 h with rfl|rfl|rfl|rfl|rfl|rfl|rfl|rfl|rfl|rfl|rfl|rfl|rfl|rfl<;>rfl
theorem fj {k:Nat} (h:k<14):(j5 k).length=7:=by
 rcases k14 h with rfl|rfl|rfl|rfl|rfl|rfl|rfl|rfl|rfl|rfl|rfl|rfl|rfl|rfl<;>rfl
theorem ly:yI.length=126:=by rfl
theorem aB1 {k:Nat} (h:k<14):∀f∈Dx k,1<=f/\f<=13:=by
 rcases k14 h with rfl|rfl|rfl|rfl|rfl|rfl|rfl|rfl|rfl|rfl|rfl|rfl|rfl|rfl<;>decide
theorem f13 {f:Int} (h:1<=f/\f<=13):f=1\/f=2\/f=3\/f=4\/f=5\/f=6\/f=7\/f=8\/f=9\/f=10\/f=11\/f=12\/f=13:=by omega
def Od (k:Int):Prop:=1<=k/\k<14
instance (k:Int):Decidable (Od k):=by unfold Od;infer_instance
def jf (n:aJ) (f:Int):Int:=
 if f=1 then n.core else if f=2 then n.line else if f=3\/f=4 then n.world else if f=5\/f=6\/f=7 then n.state else if f=8 then n.d0 else if f=9 then n.d1
 else if f=10 then(if n.kC=true then 1 else 0) else n.no
def aG1 (n:aJ) (f v:Int):aJ:=
 if f=1 then {n with core:=v} else if f=2 then {n with line:=v} else if f=3\/f=4 then {n with world:=v} else if f=5\/f=6\/f=7 then {n with state:=v} else if f=8 then {n with d0:=v} else if f=9 then {n with d1:=v}
 else if f=10 then {n with kC:=decide (v≠0)} else {n with no:=v}
def w7 (C:bM) (f v:Int):Prop:=
 if f=1 then 0<=v/\v<C.aE else if f=2 then 0<=v/\v<C.lines else if f=3 then 0<=v/\v<=3 else if f=4 then 0<=v/\v<=4 else if f=5 then 0<=v/\v<=4
 else if f=6 then v=1\/v=2\/v=4 else if f=7 then v=0\/v=1 else if f=10\/f=11 then v=0\/v=1 else if f=12 then 0<=v/\v<20 else if f=13 then 0<=v/\v<C.aS else True
instance (C:bM) (f v:Int):Decidable (w7 C f v):=by unfold w7;infer_instance
def oO (C:bM) (n:aJ):List Int->aJ->Bool×aJ
 |[],a=>(true,a)
 |f::b,a=>if w7 C f (jf n f) then oO C n b (aG1 a f (jf n f)) else(false,a)
def Gt (k:Int):aJ:={aJ.zero with kind:=k}
def pR (C:bM) (n:aJ):Int:=
 if Od n.kind then(if C.Ok then(if(oO C n (Dx n.kind.toNat) (Gt n.kind)).1=true/\(oO C n (Dx n.kind.toNat) (Gt n.kind)).2=n then 0 else 10) else 10) else 15
end
end Go.Nt
namespace Go.Mc
open Go Go.Ab Go.Hm Go.At Go.Is Go.Ct Go.Nt
section
structure iE where
 owner:Int
 locked:Bool
 deriving DecidableEq
def iE.enc (x:iE):List Value:=[I x.owner,.bool x.locked]
def iM:iE:=⟨0,false⟩
def jA (n g:Int):Int:=(n+3)/4+g
def Rw (x:iE):Int:=if x.locked then x.owner+8 else x.owner
def H5 (es:List iE) (j:Nat):Bool:=((es.drop (4*j)).take 4).all fun x=>decide (x=⟨(es.getD (4*j) iM).owner,false⟩)
def Oe (es:List iE) (j:Nat):Int:=if H5 es j then 4*(es.getD (4*j) iM).owner else 4*jA es.length (4*j:Nat)+1
def iH (es:List iE):List Int:=(List.range ((es.length+3)/4)).map (Oe es)++es.map Rw
def iZ (es:List iE) (at':Int):Int×Int:=if 0<=at'/\at'<(iH es).length then((iH es).getD at'.toNat 0,0) else(0,10)
def A1 (o:Int):Bool:=decide (0<=o/\o<=4)
def iY (n g at' word:Int):Int×iE×Bool×Int:=
 if ¬((1<=n/\n<=16)/\(0<=g/\g<n)) then(0,iM,false,10)
 else if at'=g/4 then
  if word=4*jA n (g/4*4)+1 then(jA n g,iM,false,0)
  else if word % 4=0/\A1 (word/4)=true then(0,⟨word/4,false⟩,true,0)
  else(0,iM,false,14)
 else if at'=jA n g then
  if A1 word=true then(0,⟨word,false⟩,true,0)
  else if 8<=word/\A1 (word - 8)=true then(0,⟨word - 8,true⟩,true,0)
  else(0,iM,false,14)
 else(0,iM,false,10)
structure kO where
 lA:Bool
 bI:Int
 at':Int
 nL:Bool
 known:List (Int×Int)
def Gz:kO:=⟨false,0,0,false,[]⟩
def dE (x:Int×Int):List Value:=[I x.1,I x.2]
def kE (l:List (Int×Int)) (g:Int):Option Int:=(l.find? fun x=>decide (x.1=g)).map (·.2)
def kO.ask (c:kO) (C:bM) (world g:Int):Int×Int:=
 if(0<=g/\g<C.aS)/\(0<=world/\world<=3) then
  match kE c.known g with
  |none=>(3,0)
  |some o=>if zW world o then(1,0) else(2,0)
 else(0,10)
def kO.start (c:kO) (g:Int):kO:={c with lA:=true,bI:=g,at':=g/4,nL:=false}
def kO.begin (c:kO) (C:bM) (g:Int):kO×Int×Int:=
 if ¬(0<=g/\g<C.aS) then(c,0,10)
 else if(kE c.known g).isSome then(c,0,13)
 else if c.lA then(c,0,16)
 else(c.start g,g/4,0)
def kO.Ah (c:kO) (C:bM) (f:Int×Int):kO:={c with known:=(if(c.known.length:Int)>=C.entries then c.known.drop 1 else c.known)++[f]}
def kO.goto (c:kO) (a:Int):kO:={c with at':=a}
def kO.fresh (c:kO):kO:={c with nL:=false,at':=c.bI/4}
def kO.done (c:kO):kO:={c with lA:=false,bI:=0,at':=0,nL:=false}
def kO.walked (c:kO) (C:bM) (at' word:Int):kO×Int×Bool×Int:=
 if c.lA=false then(c,0,false,16)
 else if at'≠c.at' then(c,0,false,1)
 else if c.nL then(c.fresh,c.bI/4,false,0)
 else
  let r:=iY C.aS c.bI at' word
  if r.2.2.2≠0 then(c,0,false,r.2.2.2)
  else if r.2.2.1=true/\r.2.1.locked=true then(c.goto (c.bI/4),c.bI/4,false,0)
  else if r.2.2.1=false then(c.goto r.1,r.1,false,0)
  else((c.Ah C (c.bI,r.2.1.owner)).done,0,true,0)
def kO.drop (c:kO) (C:bM) (g:Int):kO×Int:=
 if g< -1\/g>=C.aS then(c,10)
 else({c with known:=c.known.filter (fun x=> !decide (g= -1\/x.1=g)),nL:=c.nL||(c.lA&&decide (g= -1\/c.bI=g))},0)
structure jG where
 core:Int
 world:Int
 call:Int
 bI:Int
 to:Int
 then':Int
 jO:Bool
 phase:Int
 waits:Nat->Bool
def jG.enc (r:jG):List Value:=[I r.core,I r.world,I r.call,I r.bI,I r.to,I r.then',.bool r.jO,I r.phase,.bool (r.waits 0),.bool (r.waits 1),.bool (r.waits 2),.bool (r.waits 3)]
structure Mon where
 dN:List iE
 runs:Nat->Option jG
def Mon.qD (m:Mon) (g:Nat) (x:iE):Mon:={m with dN:=m.dN.set g x}
def Mon.cK (m:Mon) (g:Nat) (x:Option jG):Mon:={m with runs:=aR m.runs g x}
def Mon.has (m:Mon) (g:Int):Prop:=0<=g/\g<m.dN.length
instance (m:Mon) (g:Int):Decidable (m.has g):=by unfold Mon.has;infer_instance
def Mon.kX (m:Mon) (g:Int):iE:=m.dN.getD g.toNat iM
def Mon.run (m:Mon) (g:Int):Option jG:=if 0<=g then m.runs g.toNat else none
def Mon.phase (m:Mon) (g:Int):Int:=match m.run g with
 |some r=>r.phase
 |none=>0
def Mon.running (m:Mon):List Nat:=(List.range 16).filter fun g=>(m.runs g).isSome
def Mon.mI (m:Mon) (core:Int) (g:Nat):Bool:=match m.runs g with
 |some r=>decide (r.core=core)
 |none=>false
def Mon.calls (m:Mon) (core:Int):Bool:=m.running.any (m.mI core)
structure Ask where
 core:Int
 world:Int
 call:Int
 bI:Int
 to:Int
def Ask.enc (a:Ask):List Value:=[I a.core,I a.world,I a.call,I a.bI,I a.to]
def Ask.run (a:Ask) (aE:Int) (j:Int×Bool×Int):jG:=⟨a.core,a.world,a.call,a.bI,a.to,j.1,j.2.1,1,fun i=>decide ((i:Int)<aE)⟩
def Mon.call (m:Mon) (aE:Int) (a:Ask):Mon×Bool×Int:=
 if ¬(0<=a.core/\a.core<aE) then(m,false,1)
 else if ¬m.has a.bI then(m,false,10)
 else if m.phase a.bI≠0 then(m,false,17)
 else if m.calls a.core then(m,false,13)
 else
  let j:=fN a.call a.world (m.kX a.bI).owner a.to
  if j.2.2≠0 then(m,false,j.2.2)
  else((m.qD a.bI.toNat ⟨(m.kX a.bI).owner,true⟩).cK a.bI.toNat (some (a.run aE j)),true,0)
def jG.none (r:jG):Bool:= !(r.waits 0||r.waits 1||r.waits 2||r.waits 3)
def jG.heard (r:jG) (core:Int):jG:={r with waits:=gW r.waits core false}
def jG.hU (r:jG):jG:={r with phase:=if r.none then 2 else r.phase}
def Mon.dropped (m:Mon) (aE g core:Int):Mon×Bool×Int:=
 if ¬m.has g then(m,false,10)
 else match m.run g with
  |none=>(m,false,16)
  |some r=>
   if r.phase≠1 then(m,false,16)
   else if ¬(0<=core/\core<aE)\/r.waits core.toNat=false then(m,false,12)
   else(m.cK g.toNat (some (r.heard core).hU),(r.heard core).none,0)
def Mon.over (m:Mon) (g:Int):Mon×Option jG×Int:=
 if ¬m.has g then(m,none,10)
 else match m.run g with
  |none=>(m,none,16)
  |some r=>
   if r.phase≠2 then(m,none,16)
   else((m.qD r.bI.toNat ⟨r.then',false⟩).cK g.toNat none,some r,0)
def aK.next? (s:aK):Option Ins:=if s.over then none else some (pW s.prog s.at')
def aK.ev (s:aK) (i:Nat) (x:Ins) (word value code:Int):Ev:=⟨i,s.at',x.op,s.world,word,value,code⟩
def aK.step (s:aK) (a:Int):aK:=s.iO a
def aK.gX (s:aK) (i:Nat):Option (aK×Ev):=
 match aK.next? s with
 |none=>none
 |some x=>
  if x.op=1 then some ((s.cK x.a x.b).iO (s.at'+1),aK.ev s i x 0 x.b 0)
  else if x.op=2 then some ((s.cK x.a (wr (s.cJ x.b.toNat+s.cJ x.c.toNat))).iO (s.at'+1),aK.ev s i x 0 (wr (s.cJ x.b.toNat+s.cJ x.c.toNat)) 0)
  else if x.op=6 then some (s.iO (s.at'+1),aK.ev s i x 0 0 0)
  else if x.op=7 then(if s.world=0 then some ((s.Y3 x.a).iO (s.at'+1),aK.ev s i x 0 x.a 0) else some (s.iO (s.at'+1),aK.ev s i x 0 x.a 18))
  else if x.op=9 then some (s.iO x.a,aK.ev s i x 0 x.a 0)
  else if x.op=10 then some (s.iO (if s.cJ x.a.toNat=0 then x.b else s.at'+1),aK.ev s i x 0 (s.cJ x.a.toNat) 0)
  else none
def zR (op:Int):Bool:=decide (op=3\/op=4\/op=5)
structure Acc where
 word:Int
 write:Bool
 read:Bool
 value:Int
def aK.hQ (s:aK):Option Acc:=
 match aK.next? s with
 |none=>none
 |some x=>if zR x.op then some ⟨s.cJ x.b.toNat,decide (x.op≠3),decide (x.op≠4),if x.op=3 then 0 else s.cJ x.a.toNat⟩ else none
def aK.rV (s:aK) (i:Nat):Option Ask:=
 match aK.next? s with
 |none=>none
 |some x=>if x.op=8 then some ⟨i,s.world,x.a,s.cJ x.b.toNat,s.cJ x.c.toNat⟩ else none
def aK.bG (s:aK) (i:Nat) (value code:Int):aK×Ev×Int:=
 match aK.next? s with
 |none=>(s,Hc,16)
 |some x=>
  if x.op=8 then((s.cK x.b code).iO (s.at'+1),aK.ev s i x (s.cJ x.b.toNat) (s.cJ x.c.toNat) code,0)
  else if zR x.op then
   if code≠0/\code≠19 then(s,Hc,1)
   else if code=19 then(s.iO (s.at'+1),aK.ev s i x (s.cJ x.b.toNat) 0 19,0)
   else if x.op=4 then(s.iO (s.at'+1),aK.ev s i x (s.cJ x.b.toNat) (s.cJ x.a.toNat) 0,0)
   else((s.cK x.a value).iO (s.at'+1),aK.ev s i x (s.cJ x.b.toNat) value 0,0)
  else(s,Hc,16)
abbrev gO:=Nat->Nat->List aJ
def gC (n:aJ):Nat:=(Pa n.kind.toNat).toNat
def gO.set (F:gO) (c w:Nat) (l:List aJ):gO:=fun a b=>if a=c/\b=w then l else F a b
def gO.put (F:gO) (n:aJ):gO:=F.set n.core.toNat (gC n) (F n.core.toNat (gC n)++[n])
def gO.zT (d:Int):gO->List aJ->Option gO
 |F,[]=>some F
 |F,n::l=>if((F n.core.toNat (gC n)).length:Int)<d then gO.zT d (F.put n) l else none
def cG (C:bM):List aJ->Int
 |[]=>0
 |n::l=>if pR C n≠0 then pR C n else cG C l
def gO.send (C:bM) (F:gO) (l:List aJ):gO×Int:=
 if cG C l≠0 then(F,cG C l) else match gO.zT C.depth F l with
  |some a=>(a,0)
  |none=>(F,11)
def gO.take (C:bM) (F:gO) (core a b:Int):gO×aJ×Int:=
 if ¬((0<=core/\core<C.aE)/\(0<=a/\a<4)) then(F,aJ.zero,10)
 else
  let l:=F core.toNat a.toNat
  if l=[] then(F,aJ.zero,12)
  else
   let i:=(b % (l.length:Int)).toNat
   (F.set core.toNat a.toNat (l.eraseIdx i),l.getD i aJ.zero,0)
structure cT where
 aD:Nat->aK
 dD:Nat->gZ
 cG:Nat->kO
 home:kN
 bY:Mon
 kL:gO
 log:List Ev
abbrev cT.nT (M:cT) (i:Nat) (s:aK):cT:={M with aD:=aR M.aD i s}
abbrev cT.uQ (M:cT) (i:Nat) (s:gZ):cT:={M with dD:=aR M.dD i s}
abbrev cT.Er (M:cT) (i:Nat) (s:kO):cT:={M with cG:=aR M.cG i s}
abbrev cT.pZ (M:cT) (h:kN):cT:={M with home:=h}
abbrev cT.kD (M:cT) (m:Mon):cT:={M with bY:=m}
abbrev cT.dR (M:cT) (l:gO):cT:={M with kL:=l}
abbrev cT.Sp (M:cT) (v:Ev):cT:={M with log:=M.log++[v]}
def dL (kind:Int) (core:Int) (no:Int):aJ:={aJ.zero with kind:=kind,core:=core,no:=no}
def sX (core word no:Int):aJ:={dL 12 core no with d0:=word}
variable (C:bM)
def cT.waits (M:cT) (i:Int):Bool:=M.bY.calls i
def cT.bG (M:cT) (i:Nat) (value code:Int):cT×Int:=
 let r:=aK.bG (M.aD i) i value code
 if r.2.2≠0 then(M,r.2.2) else((M.nT i r.1).Sp r.2.1,0)
def tK (aE g:Int):List aJ:=(List.range aE.toNat).map fun i:Nat=>dL 13 i g
def cT.call (M:cT) (i:Nat) (a:Ask):cT×Int:=
 let r:=M.bY.call C.aE a
 if r.2.2≠0 then M.bG i 0 r.2.2
 else
  let s:=M.kL.send C (tK C.aE a.bI)
  if s.2≠0 then(M,s.2) else((M.dR s.1).kD r.1,0)
def cT.walk (M:cT) (i:Nat) (g:Int):cT×Int:=
 let r:=(M.cG i).begin C g
 if r.2.2≠0 then(M,r.2.2)
 else
  let s:=M.kL.send C [dL 6 i r.2.1]
  if s.2≠0 then(M,s.2) else((M.dR s.1).Er i r.1,0)
def cT.want (M:cT) (i:Nat) (line:Int) (write:Bool):cT×Int:=
 let r:=Ct.want C i (M.dD i) line (M.aD i).world write
 if r.2.2≠0 then(M,r.2.2)
 else
  let s:=M.kL.send C r.2.1
  if s.2≠0 then(M,s.2) else((M.dR s.1).uQ i r.1,0)
def cT.known (M:cT) (i:Nat) (g:Int):Int:=(kE (M.cG i).known g).getD 0
def aIr (d:Ln) (a:Int):Int:=if a=0 then d.1 else d.2
def Gi (c:gZ) (l a:Int):Int:=aIr (bA C.aI.toNat c.S l).1.d a
def cT.pO (M:cT) (i:Nat) (line at' owner:Int) (a:Acc):cT×Int:=
 let b:=if a.read then mV C (M.dD i) line at' owner else M.dD i
 let c2:=if a.write then jD C b line at' owner a.value else b
 (M.uQ i c2).bG i (if a.read then Gi C (M.dD i) line at' else 0) 0
def cT.access (M:cT) (i:Nat) (a:Acc):cT×Int:=
 if ¬(0<=a.word/\a.word<C.lines*2) then M.bG i 0 19
 else
  let line:=a.word/2
  let g:=line/2
  let r:=(M.cG i).ask C (M.aD i).world g
  if r.2≠0 then(M,r.2)
  else if r.1=3 then M.walk C i g
  else if r.1=2 then M.bG i 0 19
  else if mL C.aI.toNat (M.dD i).S line (M.known i g) a.write=false then M.want C i line a.write
  else M.pO C i line (a.word % 2) (M.known i g) a
def cT.step (M:cT) (A:Int):cT×Int:=
 if ¬(0<=A/\A<C.aE) then(M,10)
 else
  let i:=A.toNat
  if(M.aD i).over then(M,20)
  else if M.waits A then(M,16)
  else match aK.gX (M.aD i) i with
   |some r=>((M.nT i r.1).Sp r.2,0)
   |none=>match aK.rV (M.aD i) i with
    |some a=>M.call C i a
    |none=>match aK.hQ (M.aD i) with
     |some a=>M.access C i a
     |none=>(M,16)
def yQ (H:kN) (g:Int):kN:=(jI C (jI C H (g*2)).1 (g*2+1)).1
def cT.fM (M:cT) (n:aJ):cT×List aJ×Int:=
 if n.kind=1\/n.kind=2\/n.kind=3\/n.kind=4\/n.kind=5 then
  let r:=fF C M.home n
  (M.pZ r.1,r.2.1,r.2.2)
 else if n.kind=8\/n.kind=9\/n.kind=10\/n.kind=11 then
  let r:=fX C n.core (M.dD n.core.toNat) n
  (M.uQ n.core.toNat r.1,r.2.1,r.2.2)
 else if n.kind=6 then
  let r:=iZ M.bY.dN n.no
  (M,[sX n.core r.1 n.no],r.2)
 else if n.kind=12 then
  let r:=(M.cG n.core.toNat).walked C n.no n.d0
  (M.Er n.core.toNat r.1,if r.2.2.1 then [] else [dL 6 n.core r.2.1],r.2.2.2)
 else if n.kind=13 then
  let r:=(M.cG n.core.toNat).drop C n.no
  (M.Er n.core.toNat r.1,[dL 7 n.core n.no],r.2)
 else if n.kind=7 then
  let r:=M.bY.dropped C.aE n.no n.core
  (if r.2.1 then(M.kD r.1).pZ (yQ C M.home n.no) else M.kD r.1,[],r.2.2)
 else(M,[],15)
def cT.sU (M:cT) (A B D:Int):cT×Int:=
 let t:=M.kL.take C A B D
 if t.2.2≠0 then(M,t.2.2)
 else
  let r:=M.fM C t.2.1
  if r.2.2≠0 then(M,r.2.2)
  else
   let s:=t.1.send C r.2.1
   if s.2≠0 then(M,s.2) else(r.1.dR s.1,0)
def cT.Gh (M:cT) (line:Int) (world:Int):Int×Bool:=
 if C.has line then((M.bY.kX (line/2)).owner,!(M.bY.kX (line/2)).locked&&zW world (M.bY.kX (line/2)).owner) else(0,false)
def cT.begin (M:cT) (A:Int):cT×Int:=
 let r:=iC C M.home A (M.Gh C A)
 if r.2.2≠0 then(M,r.2.2)
 else
  let s:=M.kL.send C r.2.1
  if s.2≠0 then(M,s.2) else((M.dR s.1).pZ r.1,0)
def Row.Aa (r:Row):Int:=(if r.busy=true/\r.served.kind=0 then 1 else 0)+((r.waits.filter fun n=>decide (n.kind=0)).length:Int)
def fH (H:kN) (l:Int):Int:=if C.has l then Row.Aa (H l.toNat).1 else 0
def cT.hU (M:cT) (g:Int):Bool:=decide (M.bY.phase g=2)&& !(decide (fH C M.home (g*2)>0))&& !(decide (fH C M.home (g*2+1)>0))
def mY (H:kN) (g:Int):kN:=fun i=>if(i:Int)=g*2\/(i:Int)=g*2+1 then((H i).1,(0,0)) else H i
def cT.finish (M:cT) (A:Int):cT×Int:=
 if ¬(0<=A/\A<C.aS) then(M,10)
 else if M.hU C A=false then(M,16)
 else
  let r:=M.bY.over A
  match r.2.1 with
  |none=>(M,r.2.2)
  |some u=>cT.bG (if u.jO then(M.kD r.1).pZ (mY M.home u.bI) else M.kD r.1) u.core.toNat 0 0
structure Do where
 nY:Int
 a:Int
 b:Int
 c:Int
 deriving DecidableEq
def Do.enc (d:Do):List Value:=[I d.nY,I d.a,I d.b,I d.c]
def cT.Ey (M:cT) (d:Do):cT×Int:=
 if d.nY=0 then M.step C d.a else if d.nY=1 then M.sU C d.a d.b d.c else if d.nY=2 then M.begin C d.a else if d.nY=3 then M.finish C d.a else(M,1)
def cT.xA (M:cT):List Do->Nat->cT×Nat×Int
 |[],k=>(M,k,0)
 |d::l,k=>if(M.Ey C d).2≠0 then((M.Ey C d).1,k,(M.Ey C d).2) else cT.xA (M.Ey C d).1 l (k+1)
def cT.runs (M:cT) (l:List Do):cT:=l.foldl (fun M d=>(M.Ey C d).1) M
def cT.notes (M:cT):List aJ:=(List.range C.aE.toNat).flatMap fun c=>(List.range 4).flatMap fun w=>M.kL c w
def cT.over (M:cT):Bool:=
 decide (M.notes C=[])&&((List.range C.aE.toNat).all fun i=>(M.aD i).over&& !(M.dD i).D9&& !(M.cG i).lA)&&((List.range C.lines).all fun l=>decide ((M.home l).1.waits=[]))
def cT.ready (M:cT):List Do:=
 ((List.range C.aE.toNat).filter fun i:Nat=> !(M.aD i).over&& !M.waits i).map (fun i:Nat=>(⟨0,i,0,0⟩:Do))++
 ((List.range C.aE.toNat).flatMap fun c=>((List.range 4).filter fun w=>decide (M.kL c w≠[])).map fun w:Nat=>(⟨1,c,w,0⟩:Do))++
 ((List.range C.lines).filter fun l=> !(M.home l).1.busy&&decide ((M.home l).1.waits≠[])).map (fun l:Nat=>(⟨2,l,0,0⟩:Do))++
 ((List.range C.aS.toNat).filter fun g:Nat=>M.hU C g).map fun g:Nat=>(⟨3,g,0,0⟩:Do)
structure MC where
 C:bM
 uC:List (List Ins)
 yr:List Int
 dA:List Int
 words:List Int
def MC.Cw (c:MC):Int:=At.Cw c.C c.uC c.yr c.dA c.words
def MC.home (c:MC):kN:=fun i=>((sE c.C.lines i).1,At.words nE c.words 0 i)
def MC.new (c:MC):cT where
 aD:=fun i=>sN (c.uC.getD i []) (c.yr.getD i 0)
 dD:=fun _=>gZ.new
 cG:=fun _=>Gz
 home:=c.home
 bY:=⟨c.dA.map fun o=>⟨o,false⟩,fun _=>none⟩
 kL:=fun _ _=>[]
 log:=[]
end
end Go.Mc
section
open Go Go.Ab
attribute [local irreducible] bE Br rT vO vB Dv nP xS mZ Ti iN nG pU sP rF lJ Cy xP Ya Xx Tj R3 Xc Td Rx Ub U1 mF pL vA kI copyV jQ zM Xp Yw Iz mA Pp Wr X7 pT tO Ao Cx Cl Bc Xb uL uF lI iQ cS cB
namespace Go.Proofs.YtajjljbmfdboaaaGreatDoor
open Go Go.Ab Go.Hm Go.At Go.Mc
section
instance:Fx iE.enc 2:=⟨fun _=>rfl,fun _=>rfl⟩
set_option maxRecDepth 100000
variable {G:Bg} {h:AH} {L L':List HP} {Q:Value->AH->Prop}
def hJ (t:Nat) (es:List iE):HP:=vW fun x:Option Addr×Nat=>sp [aG t 0 [.slice x.1 es.length x.2],ls iE.enc 2 70 x.1 x.2 es]
theorem F8 {t:Nat} {es:List iE} (b:Hs G h (hJ t es::L)):∃a c,Hs G h (aG t 0 [.slice a es.length c]::ls iE.enc 2 70 a c es::L):=by
 obtain⟨⟨a,c⟩,b⟩:=b.Et;exact⟨a,c,b.Hh⟩
theorem kG {t:Nat} {es:List iE} {a:Option Addr} {c:Nat} (b:Hs G h (aG t 0 [.slice a es.length c]::ls iE.enc 2 70 a c es::L)):Hs G h (hJ t es::L):=
 Hs.Af (A:=fun x:Option Addr×Nat=>sp [aG t 0 [.slice x.1 es.length x.2],ls iE.enc 2 70 x.1 x.2 es]) (a,c) b.H9
theorem aEg {es:List iE} {g:Int} (a:0<=g) (h:g<es.length):es[g.toNat]?=some (es.getD g.toNat iM):=by
 simp[List.getD_eq_getElem?_getD,List.getElem?_eq_getElem (show g.toNat<es.length by omega)]
theorem iv {t:Nat} {es:List iE} {g:Int} (d:Hs G h L) [m:Has (hJ t) L es L']
  (f:∀i,Hs G i (hJ t es::L')->Q (if 0<=g/\g<es.length then .tuple ⟨[.agg ⟨(es.getD g.toNat iM).enc⟩,I 0]⟩ else .tuple ⟨[.agg ⟨iM.enc⟩,I 10]⟩) i):Cl Pr K 72 [pt t 0 0,I g] h Q:=by
 obtain⟨a,c,d⟩:=F8 (m.of d)
 refine cW (bP d fun p h d=>dG (bZ (bW (aZ (aX (fun j=>?_) (fun j=>?_))))))
 .rw[aLa (by omega)] at f;refine aQ (c:=iM.enc) rfl (bH d rfl rfl rfl rfl fun h d=>aU d (by decide) (l:=iM.enc) rfl rfl (f _ (kG d.tail)))
 .refine aB (aA (aC (b:=t) (o:=0) d rfl (cC (dO (aX (fun k=>?_) (fun k=>?_))))))
  .rw[aLa (by omega)] at f;refine aQ (c:=iM.enc) rfl (bH d rfl rfl rfl rfl fun h d=>aU d (by decide) (l:=iM.enc) rfl rfl (f _ (kG d.tail)))
  .rw[aLb (by omega)] at f;refine aB (aA (aC (b:=t) (o:=0) d rfl (wN (l:=es) (a:=a) (c:=c) (enc:=iE.enc) (e:=70) d (by decide) (by omega) (aEg (by omega) (by omega)) (bH d rfl rfl rfl rfl fun h d=>aU (b:=p) (o:=0) d (by decide) (l:=(es.getD g.toNat iM).enc) rfl rfl (f _ (kG (a:=a) (c:=c) d.to))))))
theorem Hp {t:Nat} {es:List iE} {g:Int} {x:iE} (d:Hs G h L) [m:Has (hJ t) L es L']
  (f:∀j,Hs G j (hJ t (if(0<=g/\g<es.length)/\(0<=x.owner/\x.owner<=4) then es.set g.toNat x else es)::L')->Q (I (if(0<=g/\g<es.length)/\(0<=x.owner/\x.owner<=4) then 0 else 10)) j):Cl Pr K 146 [pt t 0 0,I g,.agg ⟨x.enc⟩] h Q:=by
 obtain⟨a,c,d⟩:=F8 (m.of d)
 refine cW (dS d fun p h d=>dG (bZ (bW (aZ (aX (fun k=>?_) (fun k=>?_))))))
 .rw[aLa (by omega),aLa (by omega)] at f;exact f _ (kG d.tail)
 .refine aB (aA (aC (b:=t) (o:=0) d rfl (cC (dO (aX (fun q=>?_) (fun q=>?_))))))
  .rw[aLa (by omega),aLa (by omega)] at f;exact f _ (kG d.tail)
  .refine aA (aC (b:=p) (o:=0) d rfl (E4 (cE (eO (aX (fun u=>bW (bB d fun r h d=>?_)) (fun u=>?_))))))
   .rw[aLb (by omega),aLb (by omega)] at f;refine aB (aA (aC (b:=t) (o:=0) d rfl (aU (b:=p) (o:=0) d (by decide) (l:=x.enc) rfl rfl (dq (l:=es) (a:=a) (c:=c) (enc:=iE.enc) (e:=70) (y:=x) d (by decide) (by omega) (by omega) fun h d=>f _ ?_))));have:Hs G h (aG t 0 [.slice a es.length c]::ls iE.enc 2 70 a c (es.set g.toNat x)::L'):=d.to;rw[<-List.length_set (i:=g.toNat) (a:=x)] at this;exact kG this
   .rw[aLa (by omega),aLa (by omega)] at f;exact f _ (kG d.tail)
theorem Tp {a:Option Addr} {c:Nat} {es:List iE} (hb:es.length<=16) (i:Hs G h L) [m:Has (ls iE.enc 2 70 a c) L es L']
  (g:∀b d f,Hs G f (ls iE.enc 2 70 b d es::ls iE.enc 2 70 a c es::L')->Q (.slice b es.length d) f):Cl Pr K 180 [.slice a es.length c] h Q:=
 cW (B1 (e:=70) (show Hs G h (dI 2 70 a c (es.length,eL iE.enc es)::L') from m.of i) (by omega) g)
theorem X5 {t:Nat} {es:List iE} (hb:es.length<=16) (d:Hs G h L) [m:Has (hJ t) L es L']
  (i:∀t' g,Hs G g (hJ t' es::hJ t es::L')->Q (pt t' 0 0) g):Cl Pr K 140 [pt t 0 0] h Q:=by
 obtain⟨a,c,d⟩:=F8 (m.of d)
 refine cW (dG (bZ (aB (aA (aC (b:=t) (o:=0) d rfl (Tp hb d fun e f h d=>?_))))))
 refine aQ (c:=[.slice e es.length f]) rfl (dS d fun p h d=>i _ _ ?_)
 have d:Hs G h (aG t 0 [.slice a es.length c]::ls iE.enc 2 70 a c es::aG p 0 [.slice e es.length f]::ls iE.enc 2 70 e f es::L'):=d.to
 have d:=kG d
 exact(kG (show Hs G h (aG p 0 [.slice e es.length f]::ls iE.enc 2 70 e f es::hJ t es::L') from d.to)).to
theorem Dz (n:Nat):eK [I 0,.bool false] n=eL iE.enc (List.replicate n iM):=by
 induction n with
 |zero=>rfl
 |succ n a=>rw[List.replicate_succ,oT,<-a];rfl
theorem j7 {n:Int} (i:1<=n/\n<=16) (b:Hs G h L) (g:∀f d,Hs G d (hJ f (List.replicate n.toNat iM)::L)->Q (.tuple ⟨[pt f 0 0,I 0]⟩) d):Cl Pr K 145 [I n] h Q:=by
 refine cW (aZ (aT (by omega) (mS (aT (by omega) (Ri (by omega) (by omega) (by omega) ?_)))));refine dW (W:=2) (n:=n.toNat) (c:=n.toNat) b (by rw[Dz,Em,List.length_replicate]) rfl (by rw[Dz];exact Md) ?_;intro a h b;refine aQ (c:=[.slice (some a) n.toNat n.toNat]) rfl (dS b fun p h b=>g _ _ ?_);rw[Dz] at b;have e:(List.replicate n.toNat iM).length=n.toNat:=List.length_replicate;refine kG (a:=some a) (c:=n.toNat) ?_;unfold ls;rw[e];exact b
theorem Lq {n g:Int} (b:0<=n/\n<=100) (c:0<=g/\g<=100) (a:Q (I (jA n g)) h):Cl Pr K 303 [I n,I g] h Q:=by
 refine cW (bQ (by omega) (Eb (by omega) (Fv (by omega) (by omega) (by omega) (bQ (by omega) ?_))));unfold jA at a;show Q _ _;rw[show n+4 - 1=n+3 by omega];exact a
theorem wM {g:Int} (b:0<=g/\g<16) (a:Q (.tuple ⟨[I (g/4),I 0]⟩) h):Cl Pr K 257 [I g] h Q:=
 cW (aZ (aT (by omega) (dO (aT (by omega) (Fv (by omega) (by omega) (by omega) a)))))
theorem pA {p:Nat} {a:Int} {x:iE} {b:Bool} {e:Int} {z:List Value} (c:Hs G h (aG p 0 z::L)) (i:z.length=2) (g:∀d,Hs G d L->Q (.tuple ⟨[I a,.agg ⟨x.enc⟩,.bool b,I e]⟩) d):
  bE (vB h 2 (pt p 0 0) (.agg ⟨x.enc⟩)) fun f=>bE (vO f 2 (pt p 0 0)) fun v5=>Q (.tuple ⟨[I a,v5,.bool b,I e]⟩) f:=
 bH c (by rw[i];rfl) rfl rfl rfl fun h c=>aU c (by decide) (l:=x.enc) rfl rfl (g _ c.tail)
end
end Go.Proofs.YtajjljbmfdboaaaGreatDoor
end
namespace Go.Proofs.YtajjljbmfdboaaaGreatDoor
open Go Go.Ab Go.Hm Go.At Go.Mc
section
theorem aIn {x y:iE} {k:Value->Prop} (g:k (.bool (decide (x≠y)))) {e:Bool} (hc:e=true:=by kernel_rfl):Ub e [0,1] .neq (.agg ⟨x.enc⟩) (.agg ⟨y.enc⟩) k:=by
 refine⟨hc,_,?_,g⟩;obtain⟨a,b⟩:=x;obtain⟨c,d⟩:=y;simp[Rx,rR,Zx,Xa,iE.enc];by_cases f:a=c<;>cases b<;>cases d<;>simp[f]
set_option maxRecDepth 100000
attribute [local irreducible] bE Br rT vO vB Dv nP xS mZ Ti iN nG pU sP rF lJ Cy xP Ya Xx Tj R3 Xc Td Rx Ub U1 mF pL vA kI copyV jQ zM Xp Yw Iz mA Pp Wr X7 pT tO Ao Cx Cl Bc Xb uL uF lI iQ cS cB
variable {G:Bg} {h:AH} {L L':List HP} {Q:Value->AH->Prop}
theorem ug {b o n c a i:Nat} {k:Value->Prop} (d:i<n) (e:k (pt b (o+i*a) 0)):bE (mF a (.slice (some ⟨b,o,none⟩) n c) (I i)) k:=dV d e
theorem lx {p:Nat} {x:Int} {ws:List Int} (l:ws.length<1000) (d:Hs G h L) {a:Option Addr} {c:Nat} [m:Has (aG p 0) L [.slice a ws.length c] L'] {M:List HP} [k:Has (dI 1 3 a c) L' (ws.length,ws.map I) M]
  (j:∀e f i,Hs G i (aG p 0 [.slice e (ws++[x]).length f]::dI 1 3 e f ((ws++[x]).length,(ws++[x]).map I)::M)->Q (.tuple ⟨[]⟩) i):Cl Pr K 302 [I x,pt p 0 0] h Q:=by
 have d:Hs G h (dI 1 3 a c (ws.length,ws.map I)::aG p 0 [.slice a ws.length c]::M):=((m.of d).perm ((k.perm.cons _).trans (List.Perm.swap _ _ _)))
 refine cW (aC (b:=p) (o:=0) d rfl (aQ (c:=[I x]) rfl (dW (W:=1) (n:=1) (c:=1) d rfl rfl rfl fun g h d=>?_)))
 refine sI (a:=a) (c:=c) (n:=ws.length) (cs:=ws.map I) (a2:=some g) (c2:=1) (m:=1) (ns:=[I x]) d (by omega) fun e f h d=>?_
 refine bH (b:=p) (o:=0) d rfl rfl rfl rfl fun h d=>?_
 have:=j e f h
 rw[List.length_append,List.map_append] at this
 simp only[List.length_singleton,List.map_cons,List.map_nil] at this
 exact this d.to
def wsR (p:Nat) (ws:List Int):HP:=vW fun x:Option Addr×Nat=>sp [aG p 0 [.slice x.1 ws.length x.2],dI 1 3 x.1 x.2 (ws.length,ws.map I)]
theorem Bf {p:Nat} {x:Int} {ws:List Int} (i:ws.length<1000) (b:Hs G h L) [m:Has (wsR p) L ws L'] (g:∀d,Hs G d (wsR p (ws++[x])::L')->Q (.tuple ⟨[]⟩) d):Bc Pr K (.func (.func 302) #[] #[pt p 0 0]) [I x] h Q:=by
 obtain⟨⟨a,c⟩,b⟩:=(m.of b).Et;have b:=b.Hh;refine rA rfl ?_;exact lx i b fun e f h b=>g _ (Hs.Af (A:=fun x:Option Addr×Nat=>sp [aG p 0 [.slice x.1 _ x.2],dI 1 3 x.1 x.2 (_,_)]) (e,f) b.H9)
abbrev aBo (t:Nat) (a:Option Addr) (c:Nat) (es:List iE) (p:Nat) (ws:List Int) (L:List HP):List HP:=aG t 0 [.slice a es.length c]::ls iE.enc 2 70 a c es::wsR p ws::L
theorem jk {t p c:Nat} {a:Option Addr} {es:List iE} (hb:es.length<=16) (A:∀r b k,Hs G r (dI 1 3 b k ((iH es).length,(iH es).map I)::hJ t es::L)->Q (.slice b (iH es).length k) r) (B:∀x∈es,0<=x.owner/\x.owner<=4):
  ∀(f i:Nat) (ws:List Int) (h:AH),i+f=es.length->ws.length=i+16\/ws.length<=16+i->ws++(es.drop i).map Rw=iH es->Hs G h (aBo t a c es p ws L)->
   Dd 256 6 [] Q [(pt p 0 0),(.func (.func 302) #[] #[pt p 0 0]),(.slice a es.length c),(I es.length),(I i)] h:=by
 intro f
 induction f with
 |zero=>
  intro i ws h z F j d
  refine bW (aZ (aT (by omega) ?_))
  rw[List.drop_of_length_le (by omega),List.map_nil,List.append_nil] at j
  subst j
  obtain⟨⟨b,k⟩,d⟩:=(d.front (wsR p (iH es))).Et
  have d:=d.Hh
  refine aC (b:=p) (o:=0) d rfl (A _ _ _ ?_)
  have d:Hs G h (aG t 0 [.slice a es.length c]::ls iE.enc 2 70 a c es::dI 1 3 b k ((iH es).length,(iH es).map I)::L):=d.to
  exact(kG d).mK
 |succ f H=>
  intro i ws h z F j d
  obtain⟨x,u,y⟩:=oD (l:=es) (i:=i) (by omega)
  have D:=B x (List.mem_of_getElem? u)
  rw[y,List.map_cons] at j
  refine bW (aZ (bV (by omega) (bW (wN (l:=es) (a:=a) (c:=c) (enc:=iE.enc) (e:=70) d (by decide) (by omega) u (bP d fun m h d=>bH d rfl rfl rfl rfl fun h d=>aA (aC (b:=m) (o:=0) d rfl ?_))))))
  have g:∀(v:Int) (h:AH),v=Rw x->Hs G h (aG m 0 x.enc::aBo t a c es p ws L)->Bc Pr K (.func (.func 302) #[] #[pt p 0 0]) [I v] h fun v3 w=>bE (xP .add (I i) (I 1)) fun v4=>Dd 256 6 [] Q [(pt p 0 0),(.func (.func 302) #[] #[pt p 0 0]),(.slice a es.length c),(I es.length),v4] w:=by
   intro v h E d;refine Bf (p:=p) (ws:=ws) (by omega) d fun h d=>bQ (by omega) (H (i+1) (ws++[v]) h (by omega) (by simp;omega) ?_ d.to);rw[E,List.append_assoc];exact j
  refine dH (fun q=>bW (aA (aC (b:=m) (o:=0) d rfl (bQ (by omega) (g _ h ?_ d.to))))) (fun q=>bW (aA (aC (b:=m) (o:=0) d rfl (g _ h ?_ d.to))))
  .unfold Rw;rw[q];rfl
  .unfold Rw;rw[q];rfl
def mf (es:List iE) (j n:Nat):List Int:=((List.range n).drop j).map (Oe es)
theorem nr {t p c:Nat} {a:Option Addr} {es:List iE} (hb:es.length<=16) (V:∀J b H,Hs G J (dI 1 3 b H ((iH es).length,(iH es).map I)::hJ t es::L)->Q (.slice b (iH es).length H) J) (N:∀x∈es,0<=x.owner/\x.owner<=4):
  ∀(f j:Nat) (ws:List Int) (h:AH),j+f=(es.length+3)/4->ws.length=j->ws++mf es j ((es.length+3)/4)=(List.range ((es.length+3)/4)).map (Oe es)->Hs G h (aBo t a c es p ws L)->
   Dd 256 2 [] Q [(pt t 0 0),(pt p 0 0),(.func (.func 302) #[] #[pt p 0 0]),(I es.length),(I (4*j:Nat))] h:=by
 intro f
 induction f with
 |zero=>
  intro j ws h U Y q d
  refine bW (aZ (aT (by omega) (bW (aB (aA (aC (b:=t) (o:=0) d rfl (cC ?_)))))))
  unfold mf at q
  rw[List.drop_of_length_le (by rw[List.length_range];omega),List.map_nil,List.append_nil] at q
  refine jk hb V N es.length 0 ws h (by omega) (.inr (by omega)) ?_ d
  rw[List.drop_zero,q];rfl
 |succ f Z=>
  intro j ws h U Y q d
  have w:4*j<es.length:=by omega
  obtain⟨x,D,_⟩:=oD (l:=es) (i:=4*j) w
  have u:es.getD (4*j) iM=x:=by rw[List.getD_eq_getElem?_getD,D];rfl
  have W:=N x (List.mem_of_getElem? D)
  have B:mf es j ((es.length+3)/4)=Oe es j::mf es (j+1) ((es.length+3)/4):=by
   unfold mf;rw[List.drop_eq_getElem_cons (by rw[List.length_range];omega),List.getElem_range,List.map_cons]
  rw[B] at q
  have step:∀(v:Int) (h:AH) (M:List HP),v=Oe es j->[Sub M L]->Hs G h (aG t 0 [.slice a es.length c]::ls iE.enc 2 70 a c es::wsR p ws::M)->Bc Pr K (.func (.func 302) #[] #[pt p 0 0]) [I v] h fun v3 P=>bE (xP .add (I (4*j:Nat)) (I 4)) fun v4=>Dd 256 2 [] Q [(pt t 0 0),(pt p 0 0),(.func (.func 302) #[] #[pt p 0 0]),(I es.length),v4] P:=by
   intro v h M X _ d;refine Bf (p:=p) (ws:=ws) (by omega) d fun h d=>bQ (by omega) ?_;rw[show((4*j:Nat):Int)+4=((4*(j+1):Nat):Int) by omega];refine Z (j+1) (ws++[v]) h (by omega) (by simp;omega) ?_ d.to;rw[X,List.append_assoc];exact q
  refine bW (aZ (bV (by omega) (bW (aB (aA (aC (b:=t) (o:=0) d rfl (qh (l:=es) (a:=a) (c:=c) (enc:=iE.enc) (e:=70) (j:=0) d (by omega) (x:=x) (by rw[Int.toNat_natCast];exact D) rfl (aQ (c:=(⟨x.owner,false⟩:iE).enc) rfl (bP d fun r h d=>bH d rfl rfl rfl rfl fun h d=>aB (aA (aC (b:=t) (o:=0) d rfl (bQ (by omega) ?_))))))))))))
  refine aFe ?_
  rw[show(if(es.length:Int)<((4*j:Nat):Int)+4 then(es.length:Int) else((4*j:Nat):Int)+4)=((min (4*j+4) es.length:Nat):Int) by split<;>omega]
  refine aAo (l:=es) (a:=a) (c:=c) (enc:=iE.enc) (e:=70) d w (by omega) (by omega) fun b o R=>?_
  subst R
  refine cC ?_
  have z:(⟨x.owner,false⟩:iE)=⟨(es.getD (4*j) iM).owner,false⟩:=by rw[u]
  have inner:∀(f i:Nat) (h:AH),i+f=min (4*j+4) es.length - 4*j->(((es.drop (4*j)).take 4).take i).all (fun y=>decide (y=⟨x.owner,false⟩))=true->Hs G h (aG r 0 (⟨x.owner,false⟩:iE).enc::aBo t (some ⟨b,o,none⟩) c es p ws L)->
    Dd 256 5 [] Q [(pt t 0 0),(pt p 0 0),(.func (.func 302) #[] #[pt p 0 0]),(I es.length),(I (4*j:Nat)),(pt r 0 0),(.slice (some ⟨b,o+4*j*2,none⟩) (min (4*j+4) es.length - 4*j) (c - 4*j)),(I (min (4*j+4) es.length - 4*j:Nat)),(I i)] h:=by
   intro f
   induction f with
   |zero=>
    intro i h T g d
    refine bW (aZ (aT (by omega) (bW (aA (aC (b:=r) (o:=0) d rfl (vP (by dsimp only;omega) ?_))))))
    refine step _ h (aG r 0 (⟨x.owner,false⟩:iE).enc::L) ?_ d.to
    unfold Oe H5
    rw[<-z]
    rw[List.take_of_length_le (by simp;omega)] at g
    rw[aLb g,u]
   |succ f F=>
    intro i h T g d
    obtain⟨y,E,_⟩:=oD (l:=es) (i:=4*j+i) (by omega)
    refine bW (aZ (bV (by omega) (bW (ug (by omega) ?_))))
    rw[show o+4*j*2+i*2=o+(4*j+i)*2 by omega]
    refine aDz (l:=es) (c:=c) (enc:=iE.enc) (e:=70) d (by decide) E (bP d fun O h d=>bH d rfl rfl rfl rfl fun h d=>aU (b:=O) (o:=0) d (by decide) (l:=y.enc) rfl rfl (aU (b:=r) (o:=0) d (by decide) (l:=(⟨x.owner,false⟩:iE).enc) rfl rfl (aIn (aX (fun A=>?_) (fun A=>?_)))))
    .refine bW (Lq (by omega) (by omega) (vP (by unfold jA;omega) (bQ (by unfold jA;omega) ?_)));refine step _ h (aG O 0 y.enc::aG r 0 (⟨x.owner,false⟩:iE).enc::L) ?_ d.to;unfold Oe;rw[aLa];intro m;unfold H5 at m;rw[List.all_eq_true] at m;have:=m y (by
      refine List.mem_of_getElem? (i:=i) ?_;rw[List.getElem?_take_of_lt (by omega),List.getElem?_drop];exact E)
     rw[<-z] at this
     exact A (of_decide_eq_true this)
    .refine bW (bQ (by omega) ?_);have k:(((es.drop (4*j)).take 4).take (i+1)).all (fun y=>decide (y=⟨x.owner,false⟩))=true:=by
      rw[List.take_add_one,List.all_append,g,Bool.true_and];rw[List.getElem?_take_of_lt (by omega),List.getElem?_drop,E];simpa using A
     exact F (i+1) h (by omega) k d.to
  have:=inner (min (4*j+4) es.length - 4*j) 0 h (by omega) (by simp) d.to
  exact this
theorem mg {t:Nat} {es:List iE} (hb:es.length<=16) (j:∀x∈es,0<=x.owner/\x.owner<=4) (d:Hs G h L) [m:Has (hJ t) L es L'] (i:∀g b f,Hs G g (dI 1 3 b f ((iH es).length,(iH es).map I)::hJ t es::L')->Q (.slice b (iH es).length f) g):
  Cl Pr K 256 [pt t 0 0] h Q:=by
 obtain⟨a,c,d⟩:=F8 (m.of d)
 refine cW (dG (bZ (bW (bP d fun p h d=>aB (aA (aC (b:=t) (o:=0) d rfl (cC ?_)))))))
 have d:=gS (W:=1) (e:=3) d
 have d:Hs G h (aG p 0 [.slice none 0 0]::dI 1 3 none 0 (0,[])::aG t 0 [.slice a es.length c]::ls iE.enc 2 70 a c es::L'):=d.to
 have d:Hs G h (wsR p []::_):=Hs.Af (A:=fun x:Option Addr×Nat=>sp [aG p 0 [.slice x.1 0 x.2],dI 1 3 x.1 x.2 (0,[])]) (none,0) d.H9
 exact nr (a:=a) (c:=c) hb i j ((es.length+3)/4) 0 [] h (by omega) rfl (by simp[mf]) d.to
theorem xh {t:Nat} {es:List iE} {x:Int} (hb:es.length<=16) (j:∀x∈es,0<=x.owner/\x.owner<=4) (c:Hs G h L) [m:Has (hJ t) L es L'] (a:∀d,Hs G d (hJ t es::L')->Q (.tuple ⟨[I (iZ es x).1,I (iZ es x).2]⟩) d):
  Cl Pr K 204 [pt t 0 0,I x] h Q:=by
 unfold iZ at a
 refine cW (dG (bZ (bW (mg hb j c fun h b k c=>aZ (aX (fun f=>?_) (fun f=>cC (dO (aX (fun g=>?_) (fun g=>?_)))))))))
 .rw[aLa (by omega)] at a;exact a _ c.tail
 .rw[aLa (by omega)] at a;exact a _ c.tail
 .rw[aLb (by omega)] at a;obtain⟨n,rfl⟩:=Int.eq_ofNat_of_zero_le (show 0<=x by omega);have i:n<(iH es).length:=by omega
  refine Zu (e:=3) (cs:=(iH es).map I) c (u:=I ((iH es).getD n 0)) (by simp[List.getD_eq_getElem?_getD,List.getElem?_eq_getElem i]) (a _ c.tail)
end
end Go.Proofs.YtajjljbmfdboaaaGreatDoor
section
open Go Go.Ab
attribute [local irreducible] bE Br rT vO vB Dv nP xS mZ Ti iN nG pU sP rF lJ Cy xP Ya Xx Tj R3 Xc Td Rx Ub U1 mF pL vA kI copyV jQ zM Xp Yw Iz mA Pp Wr X7 pT tO Ao Cx Cl Bc Xb uL uF lI iQ cS cB
namespace Go.Proofs.YtajjljbmfdboaaaGreatDoor
open Go Go.Ab Go.Hm Go.At Go.Mc
section
set_option maxRecDepth 100000
variable {G:Bg} {h:AH} {L L':List HP} {Q:Value->AH->Prop}
theorem sv {n g a w:Int} (o:(1<=n/\n<=16)/\(0<=g/\g<n)) (q:0<=w/\w<=1000000) (f:Hs G h L)
  (b:∀m,Hs G m L->Q (.tuple ⟨[I (iY n g a w).1,.agg ⟨(iY n g a w).2.1.enc⟩,.bool (iY n g a w).2.2.1,I (iY n g a w).2.2.2]⟩) m):Cl Pr K 258 [I n,I g,I a,I w] h Q:=by
 unfold iY at b
 rw[aLa (by omega)] at b
 refine cW (bP f fun p h f=>aZ (aT (by omega) (mS (aT (by omega) (aZ (aT (by omega) (dO (aT (by omega) (bW (Fv (by omega) (by omega) (by omega) (Lq (by omega) (by omega) (bJ (aX (fun j=>?_) (fun j=>?_))))))))))))))
 rotate_left
 .refine bW (bJ (aX (fun d=>?_) (fun d=>?_)))
  .refine bW (E4 (aX (fun i=>?_) (fun i=>?_)))
   .rw[aLa j,aLb d,aLb (show A1 w=true from decide_eq_true i)] at b;exact aQ (c:=(⟨w,false⟩:iE).enc) rfl (pA (z:=[I 0,.bool false]) f rfl b)
   .refine bW (dO (aX (fun k=>?_) (fun k=>?_)))
    .refine Eb (by omega) (E4 (aX (fun l=>?_) (fun l=>?_)))
     .rw[aLa j,aLb d,aLa (show ¬A1 w=true from fun e=>i (of_decide_eq_true e)),aLb ⟨k,decide_eq_true l⟩] at b;exact Eb (by omega) (aQ (c:=(⟨w - 8,true⟩:iE).enc) rfl (pA (z:=[I 0,.bool false]) f rfl b))
     .rw[aLa j,aLb d,aLa (show ¬A1 w=true from fun e=>i (of_decide_eq_true e)),aLa (fun e=>l (of_decide_eq_true e.2))] at b;exact aQ (c:=iM.enc) rfl (pA (z:=[I 0,.bool false]) f rfl b)
    .rw[aLa j,aLb d,aLa (show ¬A1 w=true from fun e=>i (of_decide_eq_true e)),aLa (fun e=>k e.1)] at b;exact aQ (c:=iM.enc) rfl (pA (z:=[I 0,.bool false]) f rfl b)
  .rw[aLa j,aLa d] at b;exact aQ (c:=iM.enc) rfl (pA (z:=[I 0,.bool false]) f rfl b)
 .rw[aLb j] at b;refine bW (vP (by omega) (Lq (by omega) (by omega) ?_));refine vP (by unfold jA;omega) (bQ (by unfold jA;omega) (bJ (aX (fun d=>?_) (fun d=>?_))));rotate_left;refine bW (Va (by omega) (by omega) (bJ (aX (fun i=>?_) (fun i=>?_))));refine Fv (by omega) (by omega) (by omega) (E4 (aX (fun k=>?_) (fun k=>?_)));rotate_left 3
  .rw[aLb d] at b;exact aQ (c:=iM.enc) rfl (pA (z:=[I 0,.bool false]) f rfl b)
  .rw[aLa d,aLb ⟨i,decide_eq_true k⟩] at b;exact Fv (by omega) (by omega) (by omega) (aQ (c:=(⟨w/4,false⟩:iE).enc) rfl (pA (z:=[I 0,.bool false]) f rfl b))
  .rw[aLa d,aLa (fun e=>k (of_decide_eq_true e.2))] at b;exact aQ (c:=iM.enc) rfl (pA (z:=[I 0,.bool false]) f rfl b)
  .rw[aLa d,aLa (fun e=>i e.1)] at b;exact aQ (c:=iM.enc) rfl (pA (z:=[I 0,.bool false]) f rfl b)
end
end Go.Proofs.YtajjljbmfdboaaaGreatDoor
end
namespace Go.Ct
open Go Go.Ab
section
def vu (s:Array UInt8) (a b c d:Bool) (x y z:Int):List Value:=[.string ⟨s⟩,.bool a,.bool b,.bool c,.bool d,I x,I y,I z]
def jN:List Value:=vu #[73] false false false false 0 0 0++vu #[83] true false false false 0 1 0++vu #[69] true true false true 4 1 0++vu #[79] true false true true 0 3 0++vu #[77] true true true true 4 3 0
end
end Go.Ct

-- The ticks of this seat: all of XTick and XRef01.
import Derived.Test.YtehpliclknfmoaaRef01
